/-
  Layer 7, plain: how long a set's bytes are.
-/
import Derived.Lib.AppendStr
import Derived.Lib.BufferKept
import Derived.Test.YtbejfgmdkmddnaaGreatDoorVClkHear
set_option maxRecDepth 100000
set_option maxHeartbeats 16000000
namespace Go.Proofs.YtbejfgmdkmddnaaGreatDoor
def aJ(n:Nat):List UInt8:=if n<128 then[UInt8.ofNat n]else UInt8.ofNat (n%128+128)::aJ (n/128)termination_by n decreasing_by omega
theorem jK{n:Nat}(h:n<128):aJ n=[UInt8.ofNat n]:=by rw[aJ,if_pos h]
theorem ma{n:Nat}(h: ¬n<128):aJ n=UInt8.ofNat (n%128+128)::aJ (n/128):=by rw[aJ,if_neg h]
theorem bH{n:Nat}(h:n<72057594037927936):(aJ n).length≤8:=by
 have key: ∀k n,n<128^(k+1)→(aJ n).length≤k+1:=fun k=>by
  induction k with
   |zero=>intro n h;rw[jK (by simpa using h)];simp
   |succ k ih=>
    intro n h;by_cases h1:n<128;·rw[jK h1];simp
    ·rw[ma h1];have:=ih (n/128) (by rw[Nat.div_lt_iff_lt_mul (by omega)];rw[Nat.pow_succ]at h;exact h);simp;omega
 exact key 7 n (by simpa using h)
open Go.RowKit Go.Maps Go.Sort
structure BJ(w:World)(base:Nat)(v:Value)(l:List UInt8)(v':Value)(w':World):Prop where
 own:aK w' base v' l
 keep:ak (fun b=>v.ownBlock=some b) w w'
 blk: ∀b,v'.ownBlock=some b→v.ownBlock=some b∨w.heap.size≤b
def vP(w:World)(base:Nat)(v:Value)(l:List UInt8)(e:Ending)(w':World):Prop:= ∃v',e=.returned v'∧BJ w base v l v' w'
def BI(w:World)(base:Nat)(v:Value)(l:List UInt8)(v' q:Value)(wr:World):Prop:= ∃(n:Nat)(l':List UInt8),q=.int .i64 n∧n<4611686018427387904∧l'++aJ n=l∧BJ w base v l' v' wr
theorem BJ.app{w wr w2:World}{base:Nat}{v v1 v2:Value}{l l':List UInt8}(h:BJ w base v l v1 wr)(o:Obj)(ho:aK w2 base v2 l')(hg:(wr.alloc o).grownBy w2 v1.ownBlock)(hv:v2.ownBlock=v1.ownBlock∨v2.ownBlock=some (wr.heap.size+1)):BJ w base v l' v2 w2:=by
 have hs:=h.keep.size;refine⟨ho,(h.keep.alloc o).trans (ak.eF (F:=fun b=>v1.ownBlock=some b) hg (fun k e=>e)) (fun b hb hF=>?_),fun b hb=>?_⟩
 ·rcases h.blk b hF with h'|h';·exact h'
  ·omega
 ·rcases hv with e|e;·exact h.blk b (e▸hb)
  ·rw[e]at hb;injection hb with hb;right;omega
theorem uT{n:Nat}(h:n<4611686018427387904):(aJ n).length≤9:=by
 by_cases h1:n<128;·rw[jK h1];simp
 ·rw[ma h1];have:=bH (n:=n/128) (by omega);simp;omega
theorem or128(x:Nat)(h:x<256):bits .or .u8 (x:Int) 128=((x%128+128:Nat):Int):=by
 have: ∀y:Fin 256,bits .or .u8 ((y.val:Nat):Int) 128=((y.val%128+128:Nat):Int):=by decide+kernel
 exact this ⟨x,h⟩
theorem CX(w:World)(base:Nat)(v:Value)(l s:List UInt8)(ho:aK w base v l)(h0:0<l.length)(hb:base≤w.heap.size)(hl:l.length+s.length≤1000000000000)(ty:TypeId): ∃v' w',(Builtin.append_ #[32,9] ty #[v,.string ⟨s.toArray⟩]).run Tryz.prog w=.ok v' w'∧aK w' base v' (l++s)∧w.grownBy w' v.ownBlock∧(v'.ownBlock=v.ownBlock∨v'.ownBlock=some w.heap.size):=by
 obtain⟨i0,hi,hz0,hz1,hz2⟩:=info_parts sI;have hss:(⟨s.toArray⟩:ByteArray).size=s.length:=by simp[ByteArray.size]
 have hsc:Lib.strCells ⟨s.toArray⟩=uD s:=by simp[Lib.strCells,uD]
 obtain⟨v',w',hr,h2,h3,_⟩:=Lib.run_append_own_string (P:=Tryz.prog) w base 32 9 ty 5 i0 Tryz.underlying32 Tryz.underlying9 hi hz0 hz1 hz2 v l.length (uD l) ho ⟨s.toArray⟩ (by rw[hss];unfold maxLen;omega) (by rw[hss];omega) hb;refine⟨v',w',hr,?_,h3,?_⟩;·unfold aK;rw[lD,List.length_append];rw[hss,hsc]at h2;exact h2
 ·rcases ho.2 with⟨_,h'⟩|⟨g,cap,cur,hv,hbg,hg,hnc,hcm,hcs,htake⟩;·omega
  ·subst hv;by_cases hroom:l.length+(⟨s.toArray⟩:ByteArray).size≤cap;·have h5:=Lib.run_append_room_string (P:=Tryz.prog) w 32 9 ty 5 i0 Tryz.underlying32 Tryz.underlying9 hi hz1 g l.length cap cur hg ⟨s.toArray⟩ hroom (by rw[hcs];omega);rw[hr]at h5;injection h5 with h5 _;left;rw[h5];rfl
   ·have hxl:(uD l).length=l.length*i0.size:=by rw[hz1,rP];omega
    have h5:=Lib.run_append_grow_string (P:=Tryz.prog) w 32 9 ty 5 i0 (.int .u8 0) Tryz.underlying32 Tryz.underlying9 hi hz0 ⟨g,0,none⟩ l.length cap (uD l) hxl (World.ownsRow.cells ho (g:=g) rfl) ⟨s.toArray⟩ (by omega) (by rw[hss];omega) (by rw[hz2,hss];exact growslice_fits (by omega) (by omega));rw[hr]at h5;injection h5 with h5 _;right;rw[h5];rfl
theorem BJ.xU{w w1 w2:World}{base:Nat}{v v1 v2:Value}{l l':List UInt8}(h:BJ w base v l v1 w1)(h2:BJ w1 base v1 l' v2 w2):BJ w base v l' v2 w2:=by
 have hs:=h.keep.size;refine⟨h2.own,h.keep.trans h2.keep (fun b hb hF=>?_),fun b hb=>?_⟩
 ·rcases h.blk b hF with h'|h';·exact h'
  ·omega
 ·rcases h2.blk b hb with h'|h';·exact h.blk b h'
  ·right;omega
theorem BJ.up{w w1 w2:World}{base:Nat}{v v1:Value}{l:List UInt8}(h:BJ w base v l v1 w1)(hb:Below w1.heap.size w1 w2):BJ w base v l v1 w2:=⟨h.own.below hb (Nat.le_refl _),h.keep.trans (G:=fun _=>False) (ak.of_below hb) (fun _ _ h=>h.elim),h.blk⟩
theorem BJ.str{w wr w2:World}{base:Nat}{v v1 v2:Value}{l l':List UInt8}(h:BJ w base v l v1 wr)(ho:aK w2 base v2 l')(hg:wr.grownBy w2 v1.ownBlock)(hv:v2.ownBlock=v1.ownBlock∨v2.ownBlock=some wr.heap.size):BJ w base v l' v2 w2:=by
 have hs:=h.keep.size;refine⟨ho,h.keep.trans (ak.eF (F:=fun b=>v1.ownBlock=some b) hg (fun k e=>e)) (fun b hb hF=>?_),fun b hb=>?_⟩
 ·rcases h.blk b hF with h'|h';·exact h'
  ·omega
 ·rcases hv with e|e;·exact h.blk b (e▸hb)
  ·rw[e]at hb;injection hb with hb;right;omega
abbrev fB(v:Value):Obj:=.cells #[v] 32
theorem aK.FP{w:World}{base:Nat}{v:Value}{l:List UInt8}{c:UInt8}(h:aK w base v (l++[c])): ∃A k,v=.slice A (l.length+1) k:=by obtain⟨A,k,h⟩:=h.form;exact⟨A,k,by simpa using h⟩
theorem aK.wS{w:World}{base:Nat}{v:Value}{l s:List UInt8}(h:aK w base v (l++s)): ∃A k,v=.slice A (l.length+s.length) k:=by obtain⟨A,k,h⟩:=h.form;exact⟨A,k,by simpa using h⟩
structure iF(w:World)(base bx:Nat)(l:List UInt8)(v:Value)(W:World):Prop where
 own:aK W base v l
 box:W.heap[bx]?=some (fB v)
 bN:Below base w W
 kept:Lib.OthersKept 5 (some bx) w W
theorem aK.kind{w:World}{base:Nat}{v:Value}{l:List UInt8}(h:aK w base v l): ∀g,v.ownBlock=some g→base≤g∧ ∃c fz,w.heap[g]?=some (.cells c 5 fz):=fun g hg=>by
 rcases h.2 with⟨e,_⟩|⟨b,cap,cur,e,hb,hc,_⟩;·rw[e]at hg;cases hg
 ·rw[e]at hg;injection hg with hg;subst hg;exact⟨hb,_,_,hc⟩
theorem aK.OW{w w':World}{base:Nat}{v:Value}{l:List UInt8}(h:aK w base v l)(hb: ∀b,v.ownBlock=some b→w'.heap[b]?=w.heap[b]?):aK w' base v l:=by
 refine⟨h.1,?_⟩;rcases h.2 with h'|⟨g,cap,cur,rfl,hb',hg,hr⟩;·exact .inl h'
 ·exact .inr ⟨g,cap,cur,rfl,hb',(hb g rfl).trans hg,hr⟩
theorem PW{W:World}{base bx:Nat}{l2:List UInt8}{v v2:Value}(hb:W.heap[bx]?=some (fB v))(ho:aK W base v2 l2):v2.ownBlock≠some bx:=fun e=>by obtain⟨_,c,fz,hc⟩:=ho.kind bx e;rw[hb]at hc;injection hc with hc;injection hc with _ hc;exact absurd hc (by decide)
theorem iF.blt{w W:World}{base bx:Nat}{l:List UInt8}{v:Value}(h:iF w base bx l v W):bx<W.heap.size:=(Array.getElem?_eq_some_iff.1 h.box).1
theorem iF.cell{w W:World}{base bx:Nat}{l:List UInt8}{v:Value}(h:iF w base bx l v W):W.cell? ⟨bx,0,none⟩=some v∧W.frozen? ⟨bx,0,none⟩=false:=⟨(cell_of_row W bx 0 _ _ (0,0) h.box).trans rfl,frozen_of_row W bx 0 _ _ h.box⟩
theorem iF.put{w W W2:World}{base bx:Nat}{l l2:List UInt8}{v v2:Value}(h:iF w base bx l v W)(ho:aK W2 base v2 l2)(hB:Below base W W2)(hk:Lib.OthersKept 5 none W W2)(hbx:base≤bx):iF w base bx l2 v2 (W2.setCell ⟨bx,0,none⟩ v2):=by
 have hb2:W2.heap[bx]?=some (fB v):=hk bx _ h.box (fun e=>by cases e) (fun c fz e=>by injection e with _ e;exact absurd e (by decide));have hne:=PW hb2 ho;refine⟨?_,by rw[af hb2];rfl,(h.bN.trans hB).setCell hbx _,?_⟩;·exact ho.OW fun b hb=>by have:b≠bx:=fun e=>hne (by rw[←e];exact hb);rw[Below.heap_setCell _ _ _ _ this]
 ·exact(h.kept.trans (fun k o hk1 _ ho1=>hk k o hk1 (fun e=>by cases e) ho1)).setCell _ rfl _
theorem iF.app{w W W2:World}{base bx:Nat}{l l2:List UInt8}{v v2:Value}(h:iF w base bx l v W)(hsz:base≤W.heap.size)(o:Obj)(ho:aK W2 base v2 l2)(hg:(W.alloc o).grownBy W2 v.ownBlock)(hbx:base≤bx):iF w base bx l2 v2 (W2.setCell ⟨bx,0,none⟩ v2):=by have hk:=h.own.kind;have hal:aK (W.alloc o) base v l:=aK.alloc h.own o;refine h.put ho (Below.grown ((Below.refl base W).alloc hsz o) hg (by simp;omega) fun k hk1=>(hk k hk1).1) ?_ hbx;exact((Lib.OthersKept.refl _ _ W).alloc o).grown hg fun g hg1=>(hal.kind g hg1).2
theorem iF.str{w W W2:World}{base bx:Nat}{l l2:List UInt8}{v v2:Value}(h:iF w base bx l v W)(hsz:base≤W.heap.size)(ho:aK W2 base v2 l2)(hg:W.grownBy W2 v.ownBlock)(hbx:base≤bx):iF w base bx l2 v2 (W2.setCell ⟨bx,0,none⟩ v2):=by have hk:=h.own.kind;refine h.put ho (Below.grown (Below.refl base W) hg hsz fun k hk1=>(hk k hk1).1) ?_ hbx;exact(Lib.OthersKept.refl _ _ W).grown hg fun g hg1=>(hk g hg1).2
theorem zm(w:World)(base:Nat)(v:Value)(l s:List UInt8)(ho:aK w base v l)(hb:base≤w.heap.size)(hl:l.length+s.length≤1000000000000)(ty:TypeId): ∃v' w',(Builtin.append_ #[32,9] ty #[v,.string ⟨s.toArray⟩]).run Tryz.prog w=.ok v' w'∧aK w' base v' (l++s)∧w.grownBy w' v.ownBlock:=by
 obtain⟨i0,hi,hz0,hz1,hz2⟩:=info_parts sI;have hss:(⟨s.toArray⟩:ByteArray).size=s.length:=by simp[ByteArray.size]
 have hsc:Lib.strCells ⟨s.toArray⟩=uD s:=by simp[Lib.strCells,uD]
 obtain⟨v',w',hr,h2,h3,_⟩:=Lib.run_append_own_string (P:=Tryz.prog) w base 32 9 ty 5 i0 Tryz.underlying32 Tryz.underlying9 hi hz0 hz1 hz2 v l.length (uD l) ho ⟨s.toArray⟩ (by rw[hss];unfold maxLen;omega) (by rw[hss];omega) hb;refine⟨v',w',hr,?_,h3⟩;unfold aK;rw[lD,List.length_append];rw[hss,hsc]at h2;exact h2
theorem iF.mid{w W W2:World}{base bx:Nat}{l:List UInt8}{v:Value}(h:iF w base bx l v W)(o:Obj)(hg:(W.alloc o).grownBy W2 v.ownBlock):W2.cell? ⟨bx,0,none⟩=some v∧W2.frozen? ⟨bx,0,none⟩=false:=by
 have hb:W2.heap[bx]?=some (fB v):=by refine(hg.block bx (by have:=h.blt;simp;omega) (fun e=>PW h.box h.own e.symm)).trans ?_;rw[Below.heap_alloc W o bx h.blt];exact h.box
 exact⟨(cell_of_row W2 bx 0 _ _ (0,0) hb).trans rfl,frozen_of_row W2 bx 0 _ _ hb⟩
theorem iF.mid0{w W W2:World}{base bx:Nat}{l:List UInt8}{v:Value}(h:iF w base bx l v W)(hg:W.grownBy W2 v.ownBlock):W2.cell? ⟨bx,0,none⟩=some v∧W2.frozen? ⟨bx,0,none⟩=false:=by have hb:W2.heap[bx]?=some (fB v):=(hg.block bx h.blt (fun e=>PW h.box h.own e.symm)).trans h.box;exact⟨(cell_of_row W2 bx 0 _ _ (0,0) hb).trans rfl,frozen_of_row W2 bx 0 _ _ hb⟩
theorem iF.XQ{w W W2:World}{base bx:Nat}{l:List UInt8}{v:Value}(h:iF w base bx l v W)(hk:Lib.OthersKept 5 none W W2):W2.cell? ⟨bx,0,none⟩=some v∧W2.frozen? ⟨bx,0,none⟩=false:=by have hb:W2.heap[bx]?=some (fB v):=hk bx _ h.box (fun e=>by cases e) (fun c fz e=>by injection e with _ e;exact absurd e (by decide));exact⟨(cell_of_row W2 bx 0 _ _ (0,0) hb).trans rfl,frozen_of_row W2 bx 0 _ _ hb⟩
open Go.Shelf
theorem I1(w:World)(bc bm:Nat)(c:aZ)(h:aH w bc bm c)(Kc:c.src.length≤100000):Calls Tryz.prog 108 #[.pointer (some ⟨bc,0,none⟩)] w (C8 w (c.src.map (·.1))):=by
 have c0:=h.cells.c4;obtain⟨row,hrw⟩: ∃row:Row Value,row=dU c.src:=⟨_,rfl⟩;have HD:=qS (w.ownsMap Tryz.prog 9 raw bm row.length (mapD row)) (by rw[hrw];exact h.map);have hds:Maps.size (mapD row)=c.src.length:=by rw[hrw];simp[mapD,Maps.size,dU]
 have HRW:=qS (row.map (·.1)=c.src.map (·.1)) (by rw[hrw];unfold dU;simp);clear hrw;have TM:=qH (wL h.ok.rising);have hnd:(c.src.map (·.1)).Nodup:=(List.pairwise_map.2 (h.ok.rising.imp fun{a b}h e=>by rw[e,aF]at h;cases h));have HND:=qH hnd;clear h hnd;refine(callsIn_wide (n:=6)).1 ?_;have hfK:Fence.wide.fn 167:=trivial;have hfS:Fence.wide.fn 111:=trivial;refine callsIn_of_wp Tryz.func108 rfl trivial ?_ rfl;simp only[Tryz.ntmps108,List.size_toArray,List.length_cons,List.length_nil,Nat.reduceAdd,Nat.reduceSub,Array.replicate_succ,Array.replicate_zero,List.push_toArray,List.append_toArray,List.nil_append,List.cons_append];have Z4:=qH hds;clear hds;gi_wp2_with fail;refine(Tryz.zR _ _).mono ?_;rintro e w2⟨rfl,rfl⟩;gi_wp2_with fail;refine(Tryz.kM bm row.length (mapD row) raw w HD.o (by rw[Z4.o];unfold maxLen;omega) (by rw[Z4.o];omega)).mono ?_;rintro e w3⟨v,ss,rfl,hS,hrow,hnil,hb3⟩;clear c0;gi_wp2_with fail;go_ret;rw[sP]at hS;rw[HRW.o]at hS;have hr:=o7 (hS.nodup_iff.2 HND.o) (fun x=>hS.mem_iff);have he:=iI hr TM.o;rw[he]at hrow;have hl:ss.length=(c.src.map (·.1)).length:=hS.length_eq;rw[hl]at hrow;refine⟨v,rfl,?_,((Below.refl _ _).alloc (Nat.le_refl _) _).trans (hb3.mono (by simp))⟩;refine⟨hrow.1,?_⟩;rcases hrow.2 with⟨e,hl⟩|⟨g,cap,cur,e,hb',hg,hrr⟩;·exact .inl ⟨e,hl⟩
 ·exact .inr ⟨g,cap,cur,e,by simp at hb';omega,hg,hrr⟩
theorem zl(w:World)(base:Nat)(v:Value)(l:List UInt8)(ho:aK w base v l)(hb:base≤w.heap.size)(n:Int)(h0: -9223372036854775808≤n)(h1:n≤9223372036854775807)(hl:l.length≤1000000000)(htab:Lib.TabBelow Tryz.prog base w "internal/strconv.uint64pow10" .u64 Lib.pow10Tab):Calls Tryz.prog 92 #[v,.int .i64 n,.int .i64 10] w fun e w'=> ∃v',e=.returned v'∧aK w' base v' (l++Lib.itoa n)∧Below base w w'∧Lib.OthersKept 5 none w w':=by refine(Tryz.strconv_AppendInt_10 base l.length n h0 h1 v (uD l) w ho hb (by omega) htab).mono ?_;rintro e w'⟨v',rfl,hown,hB,hk⟩;refine⟨v',rfl,?_,hB,hk⟩;unfold aK;rw[lD,List.length_append];exact hown
def Qp(w:World)(base bx:Nat)(l:List UInt8)(ns:List Int)(i:Value)(wr:World):Prop:= ∃(k:Nat)(v:Value),i=.int .i64 k∧k≤ns.length∧iF w base bx (l++dC (ns.take k)) v wr
def mK(w:World)(base bx:Nat)(l:List UInt8)(e:Ending)(w':World):Prop:=e=.returned (.tuple #[])∧ ∃v,iF w base bx l v w'
theorem y7(w:World)(base bx bn:Nat)(l:List UInt8)(v:Value)(ho:aK w base v l)(nW:w.heap[bx]?=some (fB v))(hbx:base≤bx)(s:List UInt8)(ns:List Int)(hn:w.heap[bn]?=some (.cells (ns.map (Value.int .i64)).toArray 3 (0,0)))(hns: ∀n∈ns,-9223372036854775808≤n∧n≤9223372036854775807)(hl:l.length+s.length+22*ns.length≤100000000)(htab:Lib.TabBelow Tryz.prog base w "internal/strconv.uint64pow10" .u64 Lib.pow10Tab):Calls Tryz.prog 107 #[.string ⟨s.toArray⟩,.slice (some ⟨bn,0,none⟩) ns.length ns.length,.pointer (some ⟨bx,0,none⟩)] w (mK w base bx (l++ah s ns)):=by
 have hblt:bx<w.heap.size:=(Array.getElem?_eq_some_iff.1 nW).1;have hbase:base≤w.heap.size:=by omega
 have HST:=qS (iF w base bx l v w) (⟨ho,nW,Below.refl _ _,Lib.OthersKept.refl _ _ _⟩);have HN:=qH hn;have Wn:=qH hns;have HT:=qH htab;have mO:=qS (l++ah s ns=l++s++dC ns++[10]) (by unfold ah;simp);have Dw:=qS (∀k,(dC (ns.take k)).length≤22*ns.length) (fun k=>by
  have h1:=uS (ns.take k) fun n hn=>hns n (List.mem_of_mem_take hn);have h2:(ns.take k).length≤ns.length:=by rw[List.length_take];omega
  omega);have UD:=qS (∀W,Lib.OthersKept 5 (some bx) w W→W.heap[bn]?=some (.cells (ns.map (Value.int .i64)).toArray 3 (0,0))) (fun W hW=>hW bn _ hn (fun e=>by injection e with e;rw[e]at hn;rw[nW]at hn;injection hn with hn;injection hn with _ hn;exact absurd hn (by decide)) (fun c fz e=>by injection e with _ e;exact absurd e (by decide)));clear ho nW hn hns htab;obtain⟨c0,f0⟩:=HST.o.cell;obtain⟨v1,w1,hr1,ho1,hg1⟩:=zm w base v l s HST.o.own hbase (by omega) 32;obtain⟨A1,k1,rfl⟩:=ho1.wS;have HR1:=qH hr1;have ky:=qH (HST.o.str hbase ho1 hg1 hbx);obtain⟨c1,f1⟩:=HST.o.mid0 hg1;clear hr1 ho1 hg1 HST;go_enter Tryz.func107,Tryz.ntmps107;go_wp2_with(at_builtin;refine Lib.wpList_append_run _ rfl (.tmp 7) (.tmp 8) _ _ rfl _ _ rfl rfl _ _ HR1.o ?_);clear c0 f0 c1 f1 HR1;generalize w1.setCell ⟨bx,0,none⟩ (.slice A1 (l.length+s.length) k1)=w2 at*;have Gt:=qS (Qp w base bx (l++s) ns (.int .i64 ((0:Nat):Int)) w2) (⟨0,_,rfl,Nat.zero_le _,by simpa[dC]using ky.o⟩);have TI:=qS ((l++s).length=l.length+s.length) (List.length_append);generalize l++s=L at*;clear ky;go_wp2;go_loopw[6,12](fun _ i wr=>Qp w base bx L ns i wr)(fun _ i _=>ns.length-(intOf i).toNat);case atStart=>exact Gt.o
 case round=>
  obtain⟨k,vk,rfl,hk,hst⟩:=hrel;have HS:=qH hst;obtain⟨c0,f0⟩:=hst.cell;have zW:=hst.bN.size;have hxl:=hst.blt;have zy:=qS ((L++dC (ns.take k)).length≤100000000) (by have:=Dw.o k;have:=TI.o;rw[List.length_append];omega);clear hst Gt;by_cases hkn:k<ns.length
  ·have t1:(k:Int)<ns.length:=by omega
   have hnk:=Wn.o ns[k] (List.getElem_mem hkn);have dx:=qH (Ij ns k hkn);have hcn:wr.cell? ⟨bn,k,none⟩=some (.int .i64 ns[k]):=by rw[cell_of_row wr bn k _ _ (0,0) (UD.o wr HS.o.kept)];simp[hkn]
   have KX:=qS ((L++dC (ns.take k))++[32]++Lib.itoa ns[k]=L++dC (ns.take (k+1))) (by rw[dx.o];simp);clear dx;generalize L++dC (ns.take k)=P at*;generalize ns[k]=n at*;have hpl:=zy.o;go_wp2_with(at_builtin;refine aG rfl (.tmp 16) (.tmp 17) rfl base _ P rfl ?c1 (wr.heap.size+1) _ _ _ [32] rfl ?c2 ?c3 ?c4 ?_);case c1=>exact aK.alloc HS.o.own _
   case c2=>exact bU.new wr _ _ [32] rfl 1 rfl (by unfold maxLen;omega)
   case c3=>first|omega|(simp;omega)
   case c4=>first|omega|(simp;omega)
   intro v2 w2 ho2 hg2 hv2;obtain⟨A2,k2,rfl⟩:=ho2.FP;obtain⟨c2,f2⟩:=HS.o.mid _ hg2;have HS2:=qH (HS.o.app (by omega) _ ho2 hg2 hbx);clear ho2 hg2 c0 f0 HS hcn;go_upto_region 5 with fail;have TC:=qS ((P++[32]).length=P.length+1) (by simp);generalize P++[32]=P2 at*;generalize w2.setCell ⟨bx,0,none⟩ (.slice A2 (P.length+1) k2)=w3 at*;obtain⟨c0,f0⟩:=HS2.o.cell;have hs3:=HS2.o.bN.size;have QQ:=qH (zl w3 base _ P2 HS2.o.own (by omega) n (by omega) (by omega) (by have:=TC.o;omega) (HT.o.on HS2.o.bN));clear c2 f2;go_wp2_with fail;refine QQ.o.mono ?_;rintro r w4⟨v4,rfl,ho4,hb4,hk4⟩;obtain⟨A4,k4,rfl⟩:=ho4.wS;obtain⟨c4,f4⟩:=HS2.o.XQ hk4;have KR:=qH (HS2.o.put ho4 hb4 hk4 hbx);rw[KX.o]at KR;have HR4:=qS (Qp w base bx L ns (.int .i64 ((k+1:Nat):Int)) _) (⟨k+1,_,rfl,hkn,KR.o⟩);clear ho4 hb4 hk4 KR QQ;go_wp2;go_roundw;case rel=>exact HR4.o
   case measure=>simp[intOf];omega
  ·have t1: ¬(k:Int)<ns.length:=by omega
   have hkl:k=ns.length:=by omega
   subst hkl;rw[List.take_length]at HS zy;generalize L++dC ns=P at*;have hpl:=zy.o;go_wp2_with(at_builtin;refine aG rfl (.tmp 23) (.tmp 24) rfl base _ P rfl ?c1 (wr.heap.size+1) _ _ _ [10] rfl ?c2 ?c3 ?c4 ?_);case c1=>exact aK.alloc HS.o.own _
   case c2=>exact bU.new wr _ _ [10] rfl 1 rfl (by unfold maxLen;omega)
   case c3=>first|omega|(simp;omega)
   case c4=>first|omega|(simp;omega)
   intro v2 w2 ho2 hg2 hv2;obtain⟨A2,k2,rfl⟩:=ho2.FP;obtain⟨c2,f2⟩:=HS.o.mid _ hg2;have HS2:=qH (HS.o.app (by omega) _ ho2 hg2 hbx);clear ho2 hg2 c0 f0 HS;have HE:=qS (mK w base bx (P++[10]) (.returned (.tuple #[])) _) (⟨rfl,_,HS2.o⟩);rw[mO.o];go_wp2;go_end0;exact HE.o
theorem dK{w w':World}{base n size:Nat}{e:TypeId}{v:Value}{xs:List Value}(h:w.ownsRow base e size v n xs)(hb: ∀b,v.ownBlock=some b→w'.heap[b]?=w.heap[b]?):w'.ownsRow base e size v n xs:=by
 refine⟨h.1,?_⟩;rcases h.2 with h'|⟨g,cap,cur,rfl,hb',hg,hr⟩;·exact .inl h'
 ·exact .inr ⟨g,cap,cur,rfl,hb',(hb g rfl).trans hg,hr⟩
theorem lZ{w:World}{base n size:Nat}{e:TypeId}{v:Value}{xs:List Value}(h:w.ownsRow base e size v n xs){b:Nat}(hb:v.ownBlock=some b): ∃cs,w.heap[b]?=some (.cells cs e (0,0)):=by
 rcases h.2 with⟨rfl,_⟩|⟨g,cap,cur,rfl,hb',hg,hr⟩;·cases hb
 ·injection hb with hb;subst hb;exact⟨_,hg⟩
theorem CE{w W:World}{bx k:Nat}{o:Obj}(h:Lib.OthersKept 5 (some bx) w W)(ho:w.heap[k]?=some o)(h1:k≠bx)(h2: ∀c fz,o≠.cells c 5 fz):W.heap[k]?=some o:=h k o ho (fun e=>by first|exact h1 (Option.some.inj e)|exact h1 (Option.some.inj e).symm) (fun c fz e=>h2 c fz e)
theorem aH.kept{w W:World}{bc bm bx:Nat}{c:aZ}(h:aH w bc bm c)(hk:Lib.OthersKept 5 (some bx) w W)(h1:bc≠bx)(h2:bm≠bx):aH W bc bm c:=by
 refine h.keep ?_ ?_;·rw[h.blk];exact CE hk h.blk h1 (fun c fz e=>nomatch e)
 ·obtain⟨es,cl,hm⟩:=h.map.isMap;rw[hm];exact CE hk hm h2 (fun c fz e=>nomatch e)
theorem uI(m:Row (Int×Int))(k:Nat)(hk:k<m.length):fo (m.take (k+1))=fo (m.take k)++ah m[k].1 [m[k].2.1,m[k].2.2]:=by rw[List.take_add_one,List.getElem?_eq_getElem hk,Option.toList_some,Ea];congr 1;simp[fo]
theorem jw(s:List UInt8)(ns:List Int)(h: ∀n∈ns,-9223372036854775808≤n∧n≤9223372036854775807):(ah s ns).length≤s.length+22*ns.length+1:=by have:=uS ns h;unfold ah;simp;omega
theorem oV{c:aZ}(h:fD c): ∀k,(fo (c.src.take k)).length≤69*k
 |0=>by simp[fo]
 |k+1=>by
  have ih:=oV h k;by_cases hk:k<c.src.length
  ·rw[uI _ _ hk,List.length_append];have hs:=h.src _ (List.getElem_mem hk);have hn:=h.now;have h24:(c.src[k]).1.length≤24:=by have:=hs.1;unfold ag at this;simp at this;omega
   have:=jw (c.src[k]).1 [(c.src[k]).2.1,(c.src[k]).2.2] (by intro v hv;simp at hv;rcases hv with rfl|rfl<;>omega);simp only[List.length_cons,List.length_nil]at this;omega
  ·rw[List.take_of_length_le (by omega)]at ih⊢;omega
def QY(ws:World)(base bx:Nat)(hd:List UInt8)(m:Row (Int×Int))(i:Value)(wr:World):Prop:= ∃(k:Nat)(v:Value),i=.int .i64 k∧k≤m.length∧iF ws base bx (hd++fo (m.take k)) v wr
def Dp(w:World)(l:List UInt8)(e:Ending)(w':World):Prop:= ∃v,e=.returned v∧aK w' w.heap.size v l∧Below w.heap.size w w'
theorem zf(w:World)(bc bm:Nat)(c:aZ)(h:aH w bc bm c)(Kc:c.src.length≤100000)(htab:Lib.TabBelow Tryz.prog w.heap.size w "internal/strconv.uint64pow10" .u64 Lib.pow10Tab):Calls Tryz.prog 48 #[.pointer (some ⟨bc,0,none⟩)] w (Dp w (aX c)):=by
 obtain⟨o1,o2,o3,o4,o5,o6⟩:=h.ok;have hblt:=h.lt;have X6:=h.map.lt;have hb1:Below w.heap.size w (w.alloc (fB (.slice none 0 0))):=(Below.refl _ _).alloc (Nat.le_refl _) _;have jG:=qH (h.up hb1);have HB1:=qH hb1;have BN:=qS ((w.alloc (fB (.slice none 0 0))).heap[w.heap.size]?=some (fB (.slice none 0 0))) (heap_alloc_new w _);have hs1:(w.alloc (fB (.slice none 0 0))).heap.size=w.heap.size+1:=by simp
 have HE:=qS (aX c=ah [99,108,111,99,107] [c.aa,c.idle,c.now,c.mark]++fo c.src) (rfl);have HT:=qH htab;clear h hb1 htab o5 o6;go_enter Tryz.func48,Tryz.ntmps48;go_wp2;go_upto_region 3 with fail;generalize w.alloc (fB (.slice none 0 0))=w1 at*;obtain⟨c0,c1,c2,c3,c4,_,_⟩:=jG.o.cells;have hs2:w.heap.size<w1.heap.size:=by omega
 clear hs1;have bJ:Below w1.heap.size w1 (w1.alloc (.cells #[.int .i64 c.aa,.int .i64 c.idle,.int .i64 c.now,.int .i64 c.mark] 3)).drew:=ax ((Below.refl _ _).alloc (Nat.le_refl _) _);have om:=qH (jG.o.up bJ);have HB3:=qH (HB1.o.trans (bJ.mono (by omega)));have Ri:=qH ((bJ.block _ (by omega)).trans BN.o);have Xu:=qS (((w1.alloc (.cells #[.int .i64 c.aa,.int .i64 c.idle,.int .i64 c.now,.int .i64 c.mark] 3)).drew).heap[w1.heap.size]?=some (.cells ([c.aa,c.idle,c.now,c.mark].map (Value.int .i64)).toArray 3 (0,0))) (heap_alloc_new w1 _);have hs3:=bJ.size;clear bJ jG BN;have wZ:=qH (y7 (w1.alloc (.cells #[.int .i64 c.aa,.int .i64 c.idle,.int .i64 c.now,.int .i64 c.mark] 3)).drew w.heap.size w.heap.size w1.heap.size [] _ (aK.nil _ _) Ri.o (Nat.le_refl _) [99,108,111,99,107] [c.aa,c.idle,c.now,c.mark] Xu.o (by intro v hv;simp at hv;rcases hv with rfl|rfl|rfl|rfl<;>omega) (by simp) (HT.o.on HB3.o));simp only[List.nil_append]at wZ;have wZ:=qS (Calls Tryz.prog 107 #[.string ⟨#[99,108,111,99,107]⟩,.slice (some ⟨w1.heap.size,0,none⟩) 4 4,.pointer (some ⟨w.heap.size,0,none⟩)] ((w1.alloc (.cells #[.int .i64 c.aa,.int .i64 c.idle,.int .i64 c.now,.int .i64 c.mark] 3)).drew) (mK ((w1.alloc (.cells #[.int .i64 c.aa,.int .i64 c.idle,.int .i64 c.now,.int .i64 c.mark] 3)).drew) w.heap.size w.heap.size (ah [99,108,111,99,107] [c.aa,c.idle,c.now,c.mark]))) (wZ.o);have nJ:=qH (jw [99,108,111,99,107] [c.aa,c.idle,c.now,c.mark] (by intro v hv;simp at hv;rcases hv with rfl|rfl|rfl|rfl<;>omega));simp only[List.length_cons,List.length_nil,Nat.zero_add,Nat.reduceAdd,Nat.reduceMul]at nJ;generalize ah [99,108,111,99,107] [c.aa,c.idle,c.now,c.mark]=hd at*;go_region_held3(fun W=>W.cell? ⟨bc,0,none⟩=some (.int .i64 c.aa)∧W.cell? ⟨bc,1,none⟩=some (.int .i64 c.idle)∧W.cell? ⟨bc,2,none⟩=some (.int .i64 c.now)∧W.cell? ⟨bc,3,none⟩=some (.int .i64 c.mark))(first|assumption|exact⟨c0,c1,c2,c3⟩|go_keep)((go_at_call 107;(with_reducible refine wZ.o.mono ?_);rintro r w4⟨rfl,v4,h4⟩;have DF:=qH (om.o.kept h4.kept (by omega) (by omega));clear c0 c1 c2 c3 c4;obtain⟨c0,c1,c2,c3,_,_,_⟩:=DF.o.cells));clear c0 c1 c2 c3;have fM:=qH (HB3.o.trans h4.bN);have Nu:=qH h4.box;have xL:=qH h4.own;have hs4:=h4.bN.size;clear h4 wZ om HB3 Ri Xu;generalize(w1.alloc (.cells #[.int .i64 c.aa,.int .i64 c.idle,.int .i64 c.now,.int .i64 c.mark] 3)).drew=w3 at*;go_wp2_with fail;with_reducible refine(I1 w4 bc bm c DF.o Kc).mono ?_
 rintro r w5⟨v5,rfl,ho5,hb5⟩;have hl5:(c.src.map (·.1)).length=c.src.length:=by simp
 obtain⟨A5,k5,hv5⟩:=ownsRow_form ho5;rw[hl5]at hv5;have j5:=qH ho5;subst hv5;have DD:=qH (DF.o.up hb5);have hxl:w.heap.size<w4.heap.size:=(Array.getElem?_eq_some_iff.1 Nu.o).1;have xK:=qS (iF w5 w.heap.size w.heap.size hd v4 w5) (⟨xL.o.below hb5 (Nat.le_refl _),(hb5.block _ hxl).trans Nu.o,Below.refl _ _,Lib.OthersKept.refl _ _ _⟩);have qE:=qH (fM.o.trans (hb5.mono (by omega)));have hs5:=hb5.size;clear ho5 hb5 hl5 DF Nu xL;have Gt:=qS (QY w5 w.heap.size w.heap.size hd c.src (.int .i64 ((0:Nat):Int)) w5) (⟨0,v4,rfl,Nat.zero_le _,by simpa[fo]using xK.o⟩);clear xK;go_wp2;go_loopw[6,30](fun _ i wr=>QY w5 w.heap.size w.heap.size hd c.src i wr)(fun _ i _=>c.src.length-(intOf i).toNat);case atStart=>exact Gt.o
 case round=>
  obtain⟨k,vk,rfl,hk,hst⟩:=hrel;have HS:=qH hst;have zW:=hst.bN.size;clear hst Gt;have XE:=qH (DD.o.kept HS.o.kept (by omega) (by omega));by_cases hkn:k<c.src.length
  ·have t1:(k:Int)<c.src.length:=by omega
   have hmem:=List.getElem_mem hkn;have hso:=DD.o.ok.src _ hmem;have hgb:=gN DD.o.ok.rising (k:=(c.src[k]).1) (v:=(c.src[k]).2) hmem;have dx:=qH (uI c.src k hkn);have hlen:=oV DD.o.ok k;obtain⟨g,hA5,hstr⟩: ∃g,A5=some ⟨g,0,none⟩∧wr.cell? ⟨g,k,none⟩=some (.string ⟨(c.src[k]).1.toArray⟩):=by
    have ho:=j5.o;have hkb: ∀b,(Value.slice A5 c.src.length k5).ownBlock=some b→wr.heap[b]?=w5.heap[b]?:=fun b hb=>by obtain⟨cs,hcs⟩:=lZ ho hb;rw[hcs];exact CE HS.o.kept hcs (fun e=>by have:=(World.ownsRow.lt ho b hb).1;omega) (fun c fz e=>nomatch e)
    have ho2:=dK ho hkb;have hl5:(c.src.map (·.1)).length=c.src.length:=by simp
    rw[hl5]at ho2;obtain⟨b,off,hA,_,hc⟩:=Strs.at_ (ss:=c.src.map (·.1)) (az.aI ho2) k (by simpa using hkn);rcases ho2.2 with⟨e,_⟩|⟨g,cap,cur,e,_⟩;·injection e with e;rw[e]at hA;cases hA
    ·injection e with e;rw[e]at hA;injection hA with hA;injection hA with h1 h2;subst h1 h2;refine⟨g,e,?_⟩;rw[Nat.zero_add]at hc;rw[hc];simp
   subst hA5;have KX:=qS (hd++fo (c.src.take k)++ah (c.src[k]).1 [(c.src[k]).2.1,(c.src[k]).2.2]=hd++fo (c.src.take (k+1))) (by rw[dx.o];simp);have zy:=qS ((hd++fo (c.src.take k)).length≤7000000) (by have:=nJ.o;rw[List.length_append];omega);clear dx hlen hmem;generalize hd++fo (c.src.take k)=P at*;generalize c.src[k]=p at*;obtain⟨nm,a,q⟩:=p;dsimp only at hso hgb hstr KX;have hnm:nm.length≤24:=by have:=hso.1;unfold ag at this;simp at this;omega
   have NB:=qS (∀W,aH W bc bm c→(Instr.lookup 134 (.map (some bm)) (.string ⟨nm.toArray⟩) false).run Tryz.prog W=.ok (.agg #[.int .i64 a,.int .i64 q]) W) (fun W hW=>by rw[E8 hW nm hnm,hgb];rfl);clear hgb;have bJ:Below wr.heap.size wr (wr.alloc (.cells #[.int .i64 a,.int .i64 q] 3)).drew:=ax ((Below.refl _ _).alloc (Nat.le_refl _) _);have rX:=qH (XE.o.up bJ);have HNA:=qS (((wr.alloc (.cells #[.int .i64 a,.int .i64 q] 3)).drew).heap[wr.heap.size]?=some (.cells ([a,q].map (Value.int .i64)).toArray 3 (0,0))) (heap_alloc_new wr _);have hxr:=HS.o.blt;have wZ:=qH (y7 ((wr.alloc (.cells #[.int .i64 a,.int .i64 q] 3)).drew) w.heap.size w.heap.size wr.heap.size P vk (HS.o.own.below bJ (Nat.le_refl _)) ((bJ.block _ hxr).trans HS.o.box) (Nat.le_refl _) nm [a,q] HNA.o (by intro v hv;simp at hv;rcases hv with rfl|rfl<;>omega) (by have:=zy.o;simp;omega) (HT.o.on ((qE.o.trans HS.o.bN).trans (bJ.mono (by omega)))));have wZ:=qS (Calls Tryz.prog 107 #[.string ⟨nm.toArray⟩,.slice (some ⟨wr.heap.size,0,none⟩) 2 2,.pointer (some ⟨w.heap.size,0,none⟩)] ((wr.alloc (.cells #[.int .i64 a,.int .i64 q] 3)).drew) (mK ((wr.alloc (.cells #[.int .i64 a,.int .i64 q] 3)).drew) w.heap.size w.heap.size (P++ah nm [a,q]))) (wZ.o);rw[KX.o]at wZ;have HKA:=qS (Lib.OthersKept 5 (some w.heap.size) wr ((wr.alloc (.cells #[.int .i64 a,.int .i64 q] 3)).drew)) (fun k o hk1 _ _=>(bJ.block k (Array.getElem?_eq_some_iff.1 hk1).1).trans hk1);have uA:=qH bJ;obtain⟨_,_,_,_,c4,_,_⟩:=XE.o.cells;have hlk:=NB.o wr XE.o;have aat:=NB.o wr.drew (XE.o.up (ax (Below.refl _ _)));have hf0: ∀W,(Instr.field 142 (.agg #[.int .i64 a,.int .i64 q]) 0).run Tryz.prog W=.ok (.int .i64 a) W:=fun _=>by kernel_rfl
   have hf1: ∀W,(Instr.field 142 (.agg #[.int .i64 a,.int .i64 q]) 1).run Tryz.prog W=.ok (.int .i64 q) W:=fun _=>by kernel_rfl
   clear bJ;go_wp2;go_region_held3(fun W=>W.cell? ⟨bc,4,none⟩=some (.map (some bm))∧(Instr.lookup 134 (.map (some bm)) (.string ⟨nm.toArray⟩) false).run Tryz.prog W=.ok (.agg #[.int .i64 a,.int .i64 q]) W)(first|assumption|exact⟨c4,hlk⟩|exact⟨rX.o.cells.c4,NB.o _ rX.o⟩|go_keep)((go_at_call 107;(with_reducible refine wZ.o.mono ?_);rintro r w9⟨rfl,v9,h9⟩;clear c4 hlk aat;have c4:=((rX.o.kept h9.kept (by omega) (by omega)).cells).c4;have hlk:=NB.o w9 (rX.o.kept h9.kept (by omega) (by omega))));all_goals have HR9:=qS (QY w5 w.heap.size w.heap.size hd c.src (.int .i64 ((k+1:Nat):Int)) w9) (⟨k+1,v9,rfl,hkn,⟨h9.own,h9.box,(HS.o.bN.trans ((uA.o).mono (by omega))).trans h9.bN,(HS.o.kept.trans HKA.o).trans h9.kept⟩⟩);clear h9 hf0 hf1;first|exact⟨HR9.o,by simp[intOf];omega⟩|(go_wp2;exact⟨HR9.o,by simp[intOf];omega⟩)
  ·have t1: ¬(k:Int)<c.src.length:=by omega
   have hkl:k=c.src.length:=by omega
   have HE2:=qS (hd++fo (c.src.take k)=aX c) (by rw[hkl,List.take_length,HE.o]);rw[HE2.o]at HS;obtain⟨A9,k9,hv9⟩:=HS.o.own.form;have HF:=qS (Dp w (aX c) (.returned vk) wr) (⟨vk,rfl,HS.o.own,qE.o.trans HS.o.bN⟩);obtain⟨c9,_⟩:=HS.o.cell;subst hv9;clear hkl;go_wp2;go_ret;exact HF.o
def aR(s:List UInt8):List UInt8:=UInt8.ofNat s.length::s
def ik(e:Ev):List UInt8:=UInt8.ofNat e.kind.toNat::(aR e.src++aJ e.num.toNat++aJ e.at_.toNat++aR e.per++aR e.item++aJ e.val.toNat++aR e.text)
theorem PD{e:Ev}(h1:e.src.length≤300)(h2:e.per.length≤300)(h3:e.item.length≤300)(h4:e.text.length≤300)(n1:e.num≤1099511627776)(n2:e.at_≤1099511627776)(n3:e.val≤1099511627776):(ik e).length≤1229:=by have a:=bH (n:=e.num.toNat) (by omega);have b:=bH (n:=e.at_.toNat) (by omega);have c:=bH (n:=e.val.toNat) (by omega);unfold ik aR;simp only[List.length_cons,List.length_append];omega
def upto(a:Int)(k:Nat):List Int:=(List.range k).map fun(i:Nat)=>a+i
def nums(rs:Rg):List Int:=rs.flatMap fun r=>upto r.1 (r.2-r.1).toNat
theorem sH{a:Int}{k:Nat}{n:Int}:n∈upto a k↔a≤n∧n<a+k:=by
 unfold upto;rw[List.mem_map];constructor;·rintro⟨i,hi,rfl⟩;have:=List.mem_range.1 hi;omega
 ·rintro⟨h1,h2⟩;exact⟨(n-a).toNat,List.mem_range.2 (by omega),by omega⟩
theorem Rt(a:Int)(k:Nat):(upto a k).Pairwise (·< ·):=by unfold upto;rw[List.pairwise_map];exact List.pairwise_lt_range.imp fun h=>by omega
theorem kV{rs:Rg}(h:RgOk rs)(n:Int):n∈nums rs↔eD rs n=true:=by
 unfold nums eD;rw[List.mem_flatMap,List.any_eq_true];constructor;·rintro⟨r,hr,hn⟩;have:=sH.1 hn;have:=h.each r hr;exact⟨r,hr,by simp;omega⟩
 ·rintro⟨r,hr,hn⟩;simp only[Bool.and_eq_true,decide_eq_true_eq]at hn;have:=h.each r hr;exact⟨r,hr,sH.2 (by omega)⟩
theorem xz{rs:Rg}(h:RgOk rs):(nums rs).Pairwise (·< ·):=by obtain⟨hu,he⟩:=h;unfold nums;induction rs with|nil=>exact List.Pairwise.nil|cons r rs ih=>obtain⟨h1,h2⟩:=List.pairwise_cons.1 hu;rw[List.flatMap_cons];refine List.pairwise_append.2 ⟨Rt _ _,ih h2 (fun q hq=>he q (by simp[hq])),fun a ha b hb=>?_⟩;obtain⟨q,hq,hb⟩:=List.mem_flatMap.1 hb;have:=sH.1 ha;have:=sH.1 hb;have:=h1 q hq;have:=he r (by simp);omega
theorem Ar{l l':List Int}(h:l.Pairwise (·< ·))(h':l'.Pairwise (·< ·))(hm: ∀n,n∈l↔n∈l'):l=l':=by
 have n1:l.Nodup:=h.imp fun h=>by omega
 have n2:l'.Nodup:=h'.imp fun h=>by omega
 exact List.Perm.eq_of_pairwise (fun a b _ _ h1 h2=>by omega) h h' ((List.perm_ext_iff_of_nodup n1 n2).2 hm)
def fH(n:Int):List Int→List Int|[]=>[n]|x::r=>if n<x then n::x::r else x::fH n r
theorem yL{n m:Int}: ∀{l:List Int},m∈fH n l↔m=n∨m∈l
 |[]=>by simp[fH]
 |x::r=>by
  unfold fH;split;·simp
  ·simp only[List.mem_cons,yL (l:=r)];constructor;·rintro(h|h|h)<;>simp[h]
   ·rintro(h|h|h)<;>simp[h]
theorem Ka{n:Int}: ∀{l:List Int},l.Pairwise (·< ·)→n∉l→(fH n l).Pairwise (·< ·)
 |[],_,_=>by simp[fH]
 |x::r,h,hn=>by
  obtain⟨h1,h2⟩:=List.pairwise_cons.1 h;simp only[List.mem_cons,not_or]at hn;unfold fH;split;·rename_i hlt;exact List.pairwise_cons.2 ⟨fun a ha=>by rcases List.mem_cons.1 ha with rfl|ha;exact hlt;have:=h1 a ha;omega,h⟩
  ·rename_i hge;refine List.pairwise_cons.2 ⟨fun a ha=>?_,Ka h2 hn.2⟩;rcases yL.1 ha with rfl|ha;·omega
   ·exact h1 a ha
theorem pG(n:Int): ∀l:List Int,(fH n l).length=l.length+1|[]=>rfl|x::r=>by unfold fH;split<;>simp[pG n r]
theorem Ov{rs:Rg}(h:RgOk rs){n:Int}(hn:eD rs n=false)(h1:1≤n)(h2:n≤1099511627776):nums (dB rs n)=fH n (nums rs):=by
 have hnm:n∉nums rs:=fun hm=>by rw[kV h,hn]at hm;cases hm
 refine Ar (xz (Cn h hn h1 h2)) (Ka (xz h) hnm) fun m=>?_;rw[kV (Cn h hn h1 h2),EG h hn,yL,kV h];simp only[Bool.or_eq_true,beq_iff_eq];exact Or.comm
def j6(out:Rg)(n:Int):Rg:=match out.getLast? with|some r=>if r.2=n then out.dropLast++[(r.1,n+1)]else out++[(n,n+1)]|none=>[(n,n+1)]
def Hu(l:List Int):Rg:=l.foldl j6 []
theorem Oa(out:Rg)(a:Int)(k:Nat):(upto a (k+1)).foldl j6 out=(match out.getLast? with|some r=>if r.2=a then out.dropLast++[(r.1,a+k+1)]else out++[(a,a+k+1)]|none=>[(a,a+k+1)]):=by
 induction k with
  |zero=>unfold upto j6;simp
  |succ k ih=>
   have e:upto a (k+1+1)=upto a (k+1)++[a+(k+1:Nat)]:=by unfold upto;rw[List.range_succ,List.map_append];rfl
   rw[e,List.foldl_append,ih];simp only[List.foldl_cons,List.foldl_nil];cases hl:out.getLast? with|none=>simp only[j6];simp;omega|some r=>simp only;split<;>(simp only[j6];simp;omega)
theorem Ez: ∀(rs out:Rg),RgOk (out++rs)→(nums rs).foldl j6 out=out++rs
 |[],out,_=>by simp[nums]
 |r::rs,out,h=>by
  have hr:=h.each r (by simp);obtain⟨k,hk⟩: ∃k:Nat,(r.2-r.1).toNat=k+1:=⟨(r.2-r.1).toNat-1,by omega⟩;have e:nums (r::rs)=upto r.1 (k+1)++nums rs:=by unfold nums;rw[List.flatMap_cons,hk]
  rw[e,List.foldl_append,Oa];have e2:(match out.getLast? with|some q=>if q.2=r.1 then out.dropLast++[(q.1,r.1+k+1)]else out++[(r.1,r.1+k+1)]|none=>[(r.1,r.1+k+1)])=out++[r]:=by
   have hr2:(r.1,r.1+(k:Int)+1)=r:=by
    apply Prod.ext;·rfl
    ·show r.1+(k:Int)+1=r.2;omega
   cases hl:out.getLast? with|none=>have:out=[]:=List.getLast?_eq_none_iff.1 hl;subst this;simp only[List.nil_append];rw[hr2]|some q=>have hq:q∈out:=List.mem_of_getLast? hl;have:=(List.pairwise_append.1 h.up).2.2 q hq r (by simp);simp only;rw[if_neg (by omega),hr2]
  rw[e2];have h':RgOk (out++[r]++rs):=by simpa using h
  rw[Ez rs (out++[r]) h'];simp
theorem Ht{rs:Rg}(h:RgOk rs):Hu (nums rs)=rs:=Ez rs [] h
def fO(out:Rg)(r:Int×Int):Rg:=match out.getLast? with|some l=>if r.1≤l.2 then out.dropLast++[(l.1,max l.2 r.2)]else out++[r]|none=>[r]
def VO(l:Rg):Prop:= ∀r∈l,1≤r.1∧r.1<r.2∧r.2≤1099511627777
theorem jO(a b:Rg)(n:Int):eD (a++b) n=(eD a n||eD b n):=by unfold eD;rw[List.any_append]
theorem yR(r:Int×Int)(n:Int):eD [r] n=(decide (r.1≤n)&&decide (n<r.2)):=by simp[eD]
theorem uW(r:Int×Int):fO [] r=[r]:=rfl
theorem rH(i:Rg)(l r:Int×Int):fO (i++[l]) r=if r.1≤l.2 then i++[(l.1,max l.2 r.2)]else i++[l]++[r]:=by unfold fO;rw[List.getLast?_append,List.getLast?_singleton,Option.some_or];simp
theorem OZ{out:Rg}{r:Int×Int}(h:RgOk out)(hr:1≤r.1∧r.1<r.2∧r.2≤1099511627777)(hl: ∀l,out.getLast?=some l→l.1≤r.1):RgOk (fO out r)∧(∀n,eD (fO out r) n=(eD out n||eD [r] n))∧ ∀l,(fO out r).getLast?=some l→l.1≤r.1:=by
 rcases List.eq_nil_or_concat out with rfl|⟨i,l,rfl⟩;·rw[uW];refine⟨⟨by simp,fun q hq=>by rw[List.mem_singleton]at hq;rw[hq];exact hr⟩,fun n=>by simp[eD],fun l hl=>?_⟩;simp at hl;rw[←hl];omega
 ·rw[List.concat_eq_append]at*;have h1:=hl l (by simp);obtain⟨u1,u2,u3⟩:=List.pairwise_append.1 h.up;have hle:=h.each l (by simp);rw[rH];by_cases hc:r.1≤l.2
  ·rw[if_pos hc];refine⟨⟨List.pairwise_append.2 ⟨u1,by simp,fun a ha b hb=>?_⟩,fun q hq=>?_⟩,fun n=>?_,fun q hq=>?_⟩;·rw[List.mem_singleton]at hb;rw[hb];exact u3 a ha l (by simp)
   ·rcases List.mem_append.1 hq with hq|hq;·exact h.each q (by simp[hq])
    ·rw[List.mem_singleton]at hq;rw[hq];simp only;omega
   ·rw[jO,jO,yR,yR,yR,Bool.or_assoc];congr 1;rw[Bool.eq_iff_iff];simp only[Bool.and_eq_true,Bool.or_eq_true,decide_eq_true_eq];omega
   ·simp at hq;rw[←hq];exact h1
  ·rw[if_neg hc];refine⟨⟨List.pairwise_append.2 ⟨h.up,by simp,fun a ha b hb=>?_⟩,fun q hq=>?_⟩,fun n=>jO _ _ _,fun q hq=>?_⟩
   ·rw[List.mem_singleton]at hb;rw[hb];rcases List.mem_append.1 ha with ha|ha;·have:=u3 a ha l (by simp);omega
    ·rw[List.mem_singleton]at ha;rw[ha];omega
   ·rcases List.mem_append.1 hq with hq|hq;·exact h.each q hq
    ·rw[List.mem_singleton]at hq;rw[hq];exact hr
   ·simp at hq;rw[←hq];omega
theorem Fu: ∀(l:Rg),l.Pairwise (fun a b=>a.1≤b.1)→VO l→ ∀out,RgOk out→(∀q,out.getLast?=some q→ ∀r∈l,q.1≤r.1)→RgOk (l.foldl fO out)∧ ∀n,eD (l.foldl fO out) n=(eD out n||eD l n)|[],_,_,out,ho,_=>⟨ho,fun n=>by simp[eD]⟩|r::l,hp,he,out,ho,hq=>by obtain⟨p1,p2⟩:=List.pairwise_cons.1 hp;obtain⟨h1,h2,h3⟩:=OZ ho (he r (by simp)) (fun q hq'=>hq q hq' r (by simp));obtain⟨k1,k2⟩:=Fu l p2 (fun q hq'=>he q (by simp[hq'])) (fO out r) h1 (fun q hq' a ha=>by have:=h3 q hq';have:=p1 a ha;omega);refine⟨k1,fun n=>?_⟩;rw[List.foldl_cons,k2,h2,show r::l=[r]++l from rfl,jO,Bool.or_assoc]
theorem L9(out:Rg)(r:Int×Int):(fO out r).length≤out.length+1:=by
 rcases List.eq_nil_or_concat out with rfl|⟨i,l,rfl⟩;·simp[uW]
 ·rw[List.concat_eq_append,rH];split<;>simp
theorem Md(l:Rg): ∀out:Rg,(l.foldl fO out).length≤out.length+l.length:=by induction l with|nil=>intro out;simp|cons r l ih=>intro out;have:=ih (fO out r);have:=L9 out r;simp only[List.foldl_cons,List.length_cons];omega
theorem Iw(l:Rg)(r:Int×Int):(l++[r]).foldl fO []=fO (l.foldl fO []) r:=by rw[List.foldl_append];rfl
theorem FK{a b:Rg}(ha:RgOk a)(hb:RgOk b)(h: ∀n,eD a n=eD b n):a=b:=by have:nums a=nums b:=Ar (xz ha) (xz hb) (fun n=>by rw[kV ha,kV hb,h]);rw[←Ht ha,←Ht hb,this]
theorem Lm{α:Type}{a b:Row α}(ha:fT a)(hb:fT b)(h: ∀p,p∈a↔p∈b):a=b:=by
 have key: ∀m:Row α,fT m→m.Nodup:=fun m hm=>hm.imp fun{x y}hxy e=>by rw[e,aF]at hxy;cases hxy
 refine List.Perm.eq_of_pairwise (le:=fun(x y:List UInt8×α)=>bytesBefore x.1 y.1=true) (fun x y _ _ h1 h2=>?_) ha hb ((List.perm_ext_iff_of_nodup (key a ha) (key b hb)).2 h);have:=gQ h1 h2;rw[aF]at this;cases this
theorem RL{rs:Rg}(h:RgOk rs)(hne:rs≠[]): ∃n,eD rs n=true:=by cases rs with|nil=>exact absurd rfl hne|cons r rs=>have:=h.each r (by simp);exact⟨r.1,by unfold eD;simp;left;omega⟩
theorem IJ{a b:eZ}(ha:dJ a)(hb:dJ b)(h: ∀s n,hadB a s n=hadB b s n):a=b:=by
 have half: ∀{a b:eZ},dJ a→dJ b→(∀s n,hadB a s n=hadB b s n)→ ∀p∈a,p∈b:=fun{a b}ha hb h p hp=>by
  have hr:aM a p.1=p.2:=by unfold aM;rw[gN ha.up (v:=p.2) hp];rfl
  have hE:aM a p.1=aM b p.1:=FK (ha.row _) (hb.row _) (fun n=>h p.1 n);have hne:=(ha.each p hp).2.2;rw[hr]at hE;unfold aM at hE;cases hg:bO b p.1 with|none=>rw[hg]at hE;exact absurd hE hne|some rs=>rw[hg]at hE;have:=gP hg;rw[show p=(p.1,rs)by rw[←show p.2=rs from hE]];exact this
 exact Lm ha.up hb.up fun p=>⟨half ha hb h p,half hb ha (fun s n=>(h s n).symm) p⟩
def encR:Int→Rg→List UInt8|_,[]=>[]|e,r::rs=>aJ (r.1-e).toNat++aJ (r.2-r.1).toNat++encR r.2 rs
def dX:Int→Rg→Int|e,[]=>e|_,r::rs=>dX r.2 rs
theorem BD(r:Int×Int): ∀(e:Int)(rs:Rg),encR e (rs++[r])=encR e rs++(aJ (r.1-dX e rs).toNat++aJ (r.2-r.1).toNat)|e,[]=>by simp[encR,dX]|e,q::rs=>by simp only[List.cons_append,encR,dX,BD r q.2 rs,List.append_assoc]
theorem nz(r:Int×Int): ∀(e:Int)(rs:Rg),dX e (rs++[r])=r.2|e,[]=>rfl|e,q::rs=>by simp only[List.cons_append,dX];exact nz r q.2 rs
def encS(p:List UInt8×Rg):List UInt8:=UInt8.ofNat p.1.length::(p.1++aJ p.2.length++encR 1 p.2)
def bV(m:eZ):List UInt8:=aJ m.length++m.flatMap encS
theorem tX(rs:Rg)(h: ∀r∈rs,1≤r.1∧r.1<r.2∧r.2≤1099511627777): ∀e:Int,1≤e→(encR e rs).length≤16*rs.length:=by induction rs with|nil=>intro e _;simp[encR]|cons r rs ih=>intro e he;have hr:=h r (by simp);have:=ih (fun q hq=>h q (by simp[hq])) r.2 (by omega);have h1:=bH (n:=(r.1-e).toNat) (by omega);have h2:=bH (n:=(r.2-r.1).toNat) (by omega);simp only[encR,List.length_append,List.length_cons];omega
theorem vD(e:Int)(rs:Rg)(j:Nat)(hj:j<rs.length):dX e (rs.take (j+1))=rs[j].2:=by rw[List.take_add_one,List.getElem?_eq_getElem hj,Option.toList_some,nz]
theorem BC(e:Int)(rs:Rg)(j:Nat)(hj:j<rs.length):encR e (rs.take (j+1))=encR e (rs.take j)++(aJ (rs[j].1-dX e (rs.take j)).toNat++aJ (rs[j].2-rs[j].1).toNat):=by rw[List.take_add_one,List.getElem?_eq_getElem hj,Option.toList_some,BD]
theorem Kl{rs:Rg}(h:RgOk rs)(j:Nat)(hj:j<rs.length):1≤dX 1 (rs.take j)∧dX 1 (rs.take j)≤rs[j].1:=by have h1:=h.each rs[j] (List.getElem_mem hj);cases j with|zero=>simp[dX];exact h1.1|succ i=>rw[vD 1 rs i (by omega)];have h2:=h.each (rs[i]'(by omega)) (List.getElem_mem _);have h3:=List.pairwise_iff_getElem.1 h.up i (i+1) (by omega) hj (by omega);omega
theorem Pz{p:List UInt8×Rg}(hn:ag p.1=true)(h:RgOk p.2)(hl:p.2.length≤90000):(encS p).length≤1500000:=by
 have h1:p.1.length≤24:=by unfold ag at hn;simp at hn;omega
 have h2:=bH (n:=p.2.length) (by omega);have h3:=tX p.2 h.each 1 (by omega);unfold encS;simp only[List.length_cons,List.length_append];omega
theorem FQ{m:eZ}(h:dJ m)(hl: ∀p∈m,p.2.length≤90000)(k:Nat):((m.take k).flatMap encS).length≤1500000*k:=by
 have key: ∀l:eZ,(∀p∈l,(encS p).length≤1500000)→(l.flatMap encS).length≤1500000*l.length:=fun l=>by induction l with|nil=>intro _;simp|cons p l ih=>intro hp;have:=ih (fun q hq=>hp q (by simp[hq]));have:=hp p (by simp);simp only[List.flatMap_cons,List.length_append,List.length_cons];omega
 have h1:=key (m.take k) (fun p hp=>Pz (h.each p (List.mem_of_mem_take hp)).1 (h.each p (List.mem_of_mem_take hp)).2.1 (hl p (List.mem_of_mem_take hp)));rw[List.length_take]at h1;have h2:1500000*min k m.length≤1500000*k:=Nat.mul_le_mul_left _ (by omega);omega
theorem Bu(m:eZ)(k:Nat)(hk:k<m.length):(m.take (k+1)).flatMap encS=(m.take k).flatMap encS++encS m[k]:=by rw[List.take_add_one,List.getElem?_eq_getElem hk,Option.toList_some,List.flatMap_append];simp
end Go.Proofs.YtbejfgmdkmddnaaGreatDoor
