/-
  The law ReplicaMore, walked.
-/
import Derived.Test.YtladegonienapaaGreatDoorUOf
import Derived.Test.YtladegonienapaaGreatDoorURMay4
import Derived.Test.YtladegonienapaaGreatDoorURpPull
import Derived.Test.YtladegonienapaaGreatDoorUItkHad
set_option maxRecDepth 100000
set_option maxHeartbeats 16000000
namespace Go.Proofs.YtladegonienapaaGreatDoor
open Go.RowKit Go.Maps Go.Sort Go.Shelf
theorem uH{e:Ev}(h:aK e=true):e.small:=by have:=jk h;exact⟨by have:=this.src;omega,by have:=this.per;omega,by have:=this.item;omega,by have:=this.text;omega⟩
theorem CP{r ks:List (List UInt8)}(h:iK r ks):r.length≤ks.length:=by
 have hnd:r.Nodup:=List.pairwise_iff_getElem.2 fun i j hi hj hij e=>by have:=List.pairwise_iff_getElem.1 h.1 i j hi hj hij;rw[e]at this;exact xm _ this
 have key: ∀(r ks:List (List UInt8)),r.Nodup→(∀x,x∈r→x∈ks)→r.length≤ks.length:=by intro r;induction r with|nil=>intro ks _ _;simp|cons a l ih=>intro ks hnd hsub;have hnd':=List.nodup_cons.1 hnd;have ha:a∈ks:=hsub a List.mem_cons_self;have:=ih (ks.erase a) hnd'.2 (fun x hx=>by have hxa:x≠a:=fun e=>hnd'.1 (by rw[←e];exact hx);exact(List.mem_erase_of_ne hxa).2 (hsub x (List.mem_cons_of_mem _ hx)));rw[List.length_erase_of_mem ha]at this;have:=List.length_pos_of_mem ha;simp only[List.length_cons];omega
 exact key r ks hnd fun x hx=>(h.2 x).1 hx
structure fF(N:Nat)(x:aG):Prop where
 FI:bH x
 pt:gM x
 aI:eu x.aI
 ok:dU N x
 gone:x.gone.length≤N
theorem fF.NA{N:Nat}{x:aG}(h:fF N x):(fZ x.aI).length≤100+69*N:=by have h1:=h.aI;have h2:=qZ h1 x.aI.src.length;rw[List.take_length]at h2;have h3:=h.ok.src;have k1:=h1.ag;have k2:=h1.idle;have k3:=h1.now;have k4:=h1.mark;have h4:=o8 [99,108,111,99,107] [x.aI.ag,x.aI.idle,x.aI.now,x.aI.mark] (by intro v hv;simp at hv;rcases hv with rfl|rfl|rfl|rfl<;>omega);simp only[List.length_cons,List.length_nil]at h4;unfold fZ;rw[List.length_append];omega
theorem fF.Ny{N:Nat}{x:aG}(h:fF N x)(hN:N≤600):(mJ x.had).length≤1000000000:=by have h1:=bI (n:=x.had.length) (by have:=h.ok.had;omega);have h2:=xJ h.FI.ok (fun p hp=>Nat.le_trans (h.ok.Bd h.FI.ok p hp) (by omega)) x.had.length;rw[List.take_length]at h2;have h3:=h.ok.had;unfold mJ;rw[List.length_append];omega
theorem fF.dc{N:Nat}{x:aG}(h:fF N x):xZ (fZ x.aI)=some x.aI:=NF h.aI h.FI.Mf
theorem fF.dh{N:Nat}{x:aG}(h:fF N x)(hN:N≤600):rV (mJ x.had)=.ok x.had []:=ND h.FI.ok (by have:=h.ok.had;omega) (fun p hp=>by have:=h.ok.Bd h.FI.ok p hp;omega)
theorem fF.bd{N:Nat}{x:aG}(h:fF N x)(hN:N≤600):QT N (fZ x.aI) (mJ x.had):=⟨fun c hc=>by rw[h.dc]at hc;injection hc with hc;subst hc;exact h.ok.src,fun m r hm=>by rw[h.dh hN]at hm;injection hm with hm _;subst hm;exact⟨h.ok.had,h.ok.Bd h.FI.ok⟩⟩
theorem fF.parts{N:Nat}{x:aG}(h:fF N x)(hN:N≤600){r:List (List UInt8)}(hr:iK r x.gone):lu x.aI.ag x.aI.idle (fZ x.aI) (mJ x.had) r x.taken x.late x.aI x.had:=⟨h.dc,⟨[],h.dh hN⟩,rfl,rfl,Qy h.pt hr,(h.FI.right h.pt (by have:=h.ok.taken;omega)).congr fun p=>(hr.2 p).symm⟩
theorem bN.TS{w:World}{F:Nat→Prop}{bi N:Nat}{x:aG}{g:List (List UInt8)}(h:bN w F bi N {x with gone:=g})(hg: ∀p,p∈g↔p∈x.gone):bN w F bi N x:=by obtain⟨A,hM,hO,h3,h4,h5,h6⟩:=h;exact⟨A,⟨hM.blk,hM.aI,hM.had,hM.taken,hM.late,hM.eG,hM.gone.congr hg,hM.ml,hM.mg,hM.lg,hM.gm,hM.gl,hM.gg,hM.tl⟩,⟨hO.sorted,hO.may,hO.src,hO.had,hO.rows,hO.taken,hO.late⟩,h3,h4,h5,h6⟩
def Lm(w:World)(N:Nat)(x:aG)(e:Ending)(w':World):Prop:= ∃bi F,e=.returned (.tuple #[.pointer (some ⟨bi,0,none⟩),.int .i64 0])∧bN w' F bi N x∧RowKit.Below w.heap.size w w'∧ ∀b,F b→w.heap.size≤b
theorem NW{w:World}{B N:Nat}{x:aG}(hx:fF N x)(hN:N≤600){vc vh vt vl vg:Value}{r:List (List UInt8)}(hV:ug w B x vc vh vt vl vg r)(hm:aW w)(he:iO w)(ht:Lib.TabBelow Tryz.prog w.heap.size w "internal/strconv.uint64pow10" .u64 Lib.pow10Tab):Calls Tryz.prog 45 #[sS x.aI.ag x.aI.idle vc vh vt vl vg] w (Lm w N x):=by
 obtain⟨Ac,kc,rfl⟩:=hV.aI.form;obtain⟨Ah,kh,rfl⟩:=hV.had.form;obtain⟨At,kt,rfl⟩:=ownsRow_form hV.taken;obtain⟨Al,kl,rfl⟩:=ownsRow_form hV.late;obtain⟨Ag,kg,rfl⟩:=ownsRow_form hV.gone;have hr:=CP hV.rise;have hlc:=hx.NA;refine(Ti w N Ac Ah At Al Ag _ kc _ kh _ kt _ kl _ kg x.aI.ag x.aI.idle (fZ x.aI) (mJ x.had) x.taken x.late r {aI:=hV.aI.Pb,had:=hV.had.Pb,tk:=ax.aQ hV.taken,le:=ax.aQ hV.late,gn:=ax.aQ hV.gone,hnc:=by omega,hnh:=hx.Ny hN,hnt:=hx.ok.taken,hnl:=hx.ok.late,Kv:=by have:=hx.gone;omega,hN:=by omega,st:=fun e he=>uH (hx.ok.may e (.inl he)),sl:=fun e he=>uH (hx.ok.may e (.inr he)),max:=hm,errs:=he,tab:=ht,bd:=hx.bd hN}).mono ?_;rintro e w'⟨hb,⟨c,m,bi,F,hp,rfl,hi,hF⟩|⟨er,rfl,h1,h2⟩⟩
 ·have e1:c=x.aI:=by have:=hp.dc;rw[hx.dc]at this;injection this with this;exact this.symm
  have e2:m=x.had:=by obtain⟨q,hq⟩:=hp.dh;rw[hx.dh hN]at hq;injection hq with hq _;exact hq.symm
  subst e1 e2;exact⟨bi,F,rfl,bN.TS hi hV.rise.2,hb,hF⟩
 ·exact absurd (hx.parts hN hV.rise) (h2 _ _)
theorem fF.adm{ag idle:Int}{N:Nat}{l:List Ev}{x:aG}(hx:x=bE (aG.new ag idle) l)(hok:dU N x)(hc:eu x.aI)(hl:l.length≤N):fF N x:=by
 subst hx;have key: ∀(l:List Ev)(x:aG),bH x→gM x→bH (bE x l)∧gM (bE x l)∧(bE x l).gone.length≤x.gone.length+l.length:=fun l=>by
  induction l with
   |nil=>exact fun x h1 h2=>⟨h1,h2,Nat.le_refl _⟩
   |cons e l ih=>
    intro x h1 h2;have h3:bE x (e::l)=bE (x.admits e) l:=rfl;rw[h3];obtain⟨k1,k2,k3⟩:=ih _ (h1.admits e) (h2.admits e);refine⟨k1,k2,?_⟩;have h2:(x.admits e).gone.length≤x.gone.length+1:=by
     unfold aG.admits;split;·omega
     ·unfold aG.took;split;·show(e.per::x.gone).length≤_;simp
      ·exact Nat.le_succ _
    rw[List.length_cons];omega
 obtain⟨k1,k2,k3⟩:=key l _ (bH.new ag idle) (gM.new ag idle);refine⟨k1,k2,hc,hok,?_⟩;have:(aG.new ag idle).gone.length=0:=rfl;omega
def Yh(w:World)(es:List Ev)(i:Value)(wr:World):Prop:= ∃k:Nat,i=.int .i64 k∧k≤es.length∧(∀d∈es.take k,aK d=true)∧Below w.heap.size w wr
theorem KS(w:World)(A:Option Addr)(n c:Nat)(ds:List Ev)(h:gH w w.heap.size A n c ds)(hn:n≤140737488355328)(hs: ∀e∈ds,e.small):Calls Tryz.prog 34 #[.slice A n c] w (Says (ds.all aK) w):=by
 have HH:=qH h;have HS:=qH hs;clear h hs;have hl:=HH.o.len;have HL:=qH hl;clear hl;go_enter Tryz.func34,Tryz.ntmps34;go_wp2;go_loopw[3](fun i wr=>Yh w ds i wr)(fun i _=>n-(intOf i).toNat);case atStart=>exact⟨0,rfl,Nat.zero_le _,fun d hd=>by simp at hd,Below.refl _ _⟩
 case round=>
  obtain⟨k,rfl,hk,hno,hbel⟩:=hrel;have vK:=qH hno;clear hno;have Vb:k≤n:=by rw[←HL.o];exact hk
  by_cases hkn:k<n
  ·have hkl:k<ds.length:=by rw[HL.o];exact hkn
   obtain⟨b,off,rfl,hb,hd⟩:=HH.o.ev k hkl;obtain⟨e0,e1,e2,e3,e4,e5,e6,e7⟩:=hd.below hbel hb;have HT:=qS (aK ds[k]=true→ ∀d∈ds.take (k+1),aK d=true) (fun h d hd=>by
    rw[List.take_add_one,List.getElem?_eq_getElem hkl,Option.toList_some]at hd;rcases List.mem_append.1 hd with hd|hd;·exact vK.o d hd
    ·simp at hd;subst hd;exact h);have HY:=qS (aK ds[k]=false→ds.all aK=false) (fun h=>List.all_eq_false.2 ⟨_,List.getElem_mem hkl,by simp[h]⟩);have sw:=qH (HS.o _ (List.getElem_mem hkl));generalize ds[k]=d at*;have t1:(k:Int)<n:=by omega
   go_wp2_with fail;refine(CL wr d sw.o).mono ?_;rintro r w2⟨rfl,hb2⟩;have hbw2:Below w.heap.size w w2:=hbel.trans (hb2.mono hbel.size);clear hb2 e0 e1 e2 e3 e4 e5 e6 e7 hd;cases hbg:aK d;·have ZM:=qH (HY.o hbg);clear hbg;go_wp2;go_ret;exact⟨aa (by rw[ZM.o]),hbw2⟩
   ·have WV:=qH (HT.o hbg);clear hbg;go_wp2;go_roundw;case rel=>exact⟨k+1,by go_num,by omega,WV.o,hbw2⟩
    case measure=>simp[intOf];omega
  ·have HZ:=qS (ds.all aK=true) (by rw[List.all_eq_true];intro d hd;exact vK.o d (by rw[List.take_of_length_le (by rw[HL.o];omega)];exact hd));have t1: ¬(k:Int)<n:=by omega
   go_wp2;go_ret;exact⟨aa (by rw[HZ.o]),hbel⟩
def zR(w:World)(G F:Nat→Prop)(bj bd:Nat)(j:Jl)(x:aG)(e:Ending)(w':World):Prop:= ∃br bi R,e=.returned (.pointer (some ⟨br,0,none⟩))∧iQ w' G F R br bj bd bi 0 j x 0∧Below w.heap.size w w'∧(∀b,R b→w.heap.size≤b)∧w.heap.size≤br
theorem zg(w:World)(G F:Nat→Prop)(bj bd:Nat)(j:Jl)(hj:gT w G F bj bd j)(ag idle:Int)(hmx:aW w):Calls Tryz.prog 17 #[.pointer (some ⟨bj,0,none⟩),.int .i64 ag,.int .i64 idle] w (zR w G F bj bd j (aG.new ag idle)):=by
 have HJ:=qH hj;have qV:=hmx.lt;clear hj hmx;go_enter Tryz.func17,Tryz.ntmps17;go_wp2_with fail;refine(xy w ag idle).mono ?_;rintro r w1⟨bi,R,rfl,hI,hb1,hR⟩;have HI:=qH hI;have HR:=qH hR;have hs1:=hb1.size;have hbq:Below w1.heap.size w1 (w1.alloc (zh bj bi 0)):=(Below.refl _ _).alloc (Nat.le_refl _) _;have hjl:=HJ.o.lt;have hRl: ∀b,R b→b<w1.heap.size:=by obtain⟨A,_,_,_,_,_,h6⟩:=hI;exact h6
 have HP:=qS (zR w G F bj bd j (aG.new ag idle) (.returned (.pointer (some ⟨w1.heap.size,0,none⟩))) (w1.alloc (zh bj bi 0))) (⟨w1.heap.size,bi,R,rfl,⟨(HJ.o.up hb1).up hbq,hI.up hbq,heap_alloc_new w1 _,fun h=>by
  rcases h with h|h|h;·have:=hjl _ (.inl h);omega
  ·have:=hjl _ (.inr h);omega
  ·have:=hRl _ h;omega,fun b hb hg=>by have:=hjl b hg;have:=hR b hb;omega,fun h=>by have:=hR _ h;omega⟩,hb1.trans (hbq.mono hs1),hR,hs1⟩);clear hI hR hb1 hbq hjl hRl;go_wp2;go_ret;exact HP.o
theorem ze(w:World)(G F R:Nat→Prop)(br bj bd bi N:Nat)(j:Jl)(x:aG)(off:Nat)(h:iQ w G F R br bj bd bi N j x off):Calls Tryz.prog 20 #[.pointer (some ⟨br,0,none⟩)] w fun e w'=>e=.returned (.int .i64 off)∧w=w':=by obtain⟨_,_,c2⟩:=h.cells;clear h;go_enter Tryz.func20,Tryz.ntmps20;go_wp2;go_ret;exact⟨rfl,rfl⟩
def Gg(k:Nat):List Ev:=(List.range k).map fun(i:Nat)=>⟨[115],(i:Int)+1,(i:Int)+1,0,[112],[120],0,[]⟩
theorem Np(k:Nat):Gg (k+1)=Gg k++[⟨[115],(k:Int)+1,(k:Int)+1,0,[112],[120],0,[]⟩]:=by unfold Gg;rw[List.range_succ,List.map_append];rfl
theorem QB:(Gg 3).all aK=true:=by decide+kernel
def Bz(w:World)(v i:Value)(wr:World):Prop:= ∃k:Nat,i=.int .i64 ((k:Int)+1)∧k≤3∧bq wr w.heap.size v (Gg k)∧RowKit.Below w.heap.size w wr
theorem CJ(w:World)(hmx:aW w):Calls Tryz.prog 8 #[] w (Says true w):=by
 have kL:=qH hmx;clear hmx;obtain⟨i0,hi,hz0,hz1,hz2⟩:=info_parts jg;have HI:=qH hi;have HZ0:=qH hz0;have HZ1:=qH hz1;have HZ2:=qH hz2;clear hi hz0 hz1 hz2;have HST:=qS (Bz w (.slice none 0 0) (.int .i64 1) w) (⟨0,rfl,Nat.zero_le _,World.ownsRow_nil _ _ _ _,Below.refl _ _⟩);go_enter Tryz.func8,Tryz.ntmps8;go_wp2;go_loopw[1,2](fun v i wr=>Bz w v i wr)(fun _ i _=>4-(intOf i).toNat);case atStart=>exact HST.o
 case round=>
  obtain⟨k,rfl,hk,ho,hbel⟩:=hrel;have HO:=qH ho;have HB:=qH hbel;have yF:=hbel.size;clear ho HST;by_cases hkn:k<3
  ·have t1:(k:Int)+1≤3:=by omega
   have hlen:(Gg k).length=k:=by unfold Gg;simp
   have df:=qH (Np k);obtain⟨y,hy⟩: ∃y:Ev,y=⟨[115],(k:Int)+1,(k:Int)+1,0,[112],[120],0,[]⟩:=⟨_,rfl⟩;have HY:=qH hy;rw[←hy]at df;have HYC:=qS (y.cells=[.string ⟨#[115]⟩,.int .i64 ((k:Int)+1),.int .i64 ((k:Int)+1),.int .i64 0,.string ⟨#[112]⟩,.string ⟨#[120]⟩,.int .i64 0,.string ⟨#[]⟩]) (by rw[hy];rfl);clear hy;generalize Gg k=out at*;clear hbel;go_wp2_with(at_builtin;refine aj (P:=Tryz.prog) rfl (.tmp 9) (.tmp 13) 22 rfl 28 i0 _ 8 96 Tryz.underlying22 HI.o HZ0.o HZ1.o HZ2.o rfl (by decide) w.heap.size _ out.length (ai out) rfl ?c1 (wr.heap.size+1) _ _ _ y.cells rfl ?c2 (cells_one y) ?c4 ?c5 ?c6 ?_);case c1=>exact World.ownsRow.alloc HO.o _
   case c2=>rw[HYC.o];exact ax.new wr _ _ (by unfold maxLen;omega) rfl
   case c4=>unfold maxLen;omega
   case c5=>omega
   case c6=>first|omega|(simp;omega)
   intro v' w3 hown3 hg3 hvv;have hown4:bq w3 w.heap.size v' (out++[y]):=by unfold bq;rw[dP,List.length_append,hlen];exact hown3
   have pU:=qS (Bz w v' (.int .i64 (((k+1:Nat):Int)+1)) w3) (⟨k+1,rfl,by omega,by rw[df.o];exact hown4,Below.grown (HB.o.alloc yF _) hg3 (by simp;omega) (fun k' hk'=>(World.ownsRow.lt HO.o k' hk').1)⟩);have HI2:=qS ((((k+1:Nat):Int)+1)=(k:Int)+1+1) (by omega);clear hown3 hown4 hg3 hvv;go_wp2;go_roundw;case rel=>rw[←HI2.o];exact pU.o
   case measure=>simp[intOf];omega
  ·have hk3:k=3:=by omega
   subst hk3;have hl3:(Gg 3).length=3:=rfl;obtain⟨A1,c1,hv,_⟩:=HO.o.form;subst hv;have HE:=qS (gH wr wr.heap.size A1 (Gg 3).length c1 (Gg 3)) (ax.aQ HO.o);rw[hl3]at HE⊢;have Uy:=qH (kL.o.up HB.o);clear hbel HO hkn hk;go_wp2_with fail;refine(JE wr A1 3 c1 (Gg 3) HE.o (by omega) QB 2 (by omega) (by omega) Uy.o).mono ?_;rintro r w1⟨bd,bj,G,F,j,rfl,hj1,hn1,hb1,hes1⟩;have Vr:=qH hj1;have BL:=qH hes1;have HB1:=qH (HB.o.trans (hb1.mono yF));have aao:=qH (kL.o.up HB1.o);clear hj1 hn1 hb1 hes1;go_wp2_with fail;refine(zg w1 G F bj bd j Vr.o 0 0 aao.o).mono ?_;rintro r w2⟨br,bi,R,rfl,hr2,hb2,hR2,hbr2⟩;have HR2:=qH hr2;have hs1:=HB1.o.size;have HB2:=qH (HB1.o.trans (hb2.mono hs1));have Sm:=qS ((∀b,R b→w.heap.size≤b)∧w.heap.size≤br) (⟨fun b hb=>by have:=hR2 b hb;omega,by omega⟩);have hs2:=HB2.o.size;clear hr2 hb2 hR2 hbr2;go_wp2_with fail;refine(qw w2 G F R br bj bd bi 0 j _ 0 HR2.o (Gg 3) BL.o 2 2 (by rw[hl3];decide) (by omega) (by rw[hl3];omega) (by omega) (kL.o.up HB2.o)).mono ?_;rintro r w3⟨rfl,R3,hr3,hk3,O9⟩;have HR3:=qH hr3;have HB3:=qH (HB2.o.trans (hk3.below hs2 (fun b hb hg=>by rcases hg with h|h;(·have:=Sm.o.1 b h;omega);(·have:=Sm.o.2;omega))));have Xy:=qS (∀b,R3 b→w.heap.size≤b) (fun b hb=>(O9 b hb).elim (Sm.o.1 b) (fun h=>by omega));have hs3:=HB3.o.size;generalize bE (aG.new 0 0) _=x3 at*;clear hr3 hk3 O9;go_wp2_with fail;refine(qw w3 G F R3 br bj bd bi _ j _ _ HR3.o (Gg 3) BL.o 9 1 (by rw[hl3];decide) (by rw[hl3];omega) (by rw[hl3];omega) (by omega) (kL.o.up HB3.o)).mono ?_;rintro r w4⟨rfl,R4,hr4,hk4,hR4⟩;have HR4:=qH hr4;have jP:=qH (HB3.o.trans (hk4.below hs3 (fun b hb hg=>by rcases hg with h|h;(·have:=Xy.o b h;omega);(·have:=Sm.o.2;omega))));have Xx:=qS (∀b,R4 b→w.heap.size≤b) (fun b hb=>(hR4 b hb).elim (Xy.o b) (fun h=>by omega));have hs4:=jP.o.size;generalize bE x3 _=x4 at*;clear hr4 hk4 hR4;go_wp2_with fail;refine(qw w4 G F R4 br bj bd bi _ j _ _ HR4.o (Gg 3) BL.o 1 0 (by rw[hl3];decide) (by rw[hl3];omega) (by rw[hl3];omega) (by omega) (kL.o.up jP.o)).mono ?_;rintro r w5⟨rfl,R5,hr5,hk5,hR5⟩;have HR5:=qH hr5;have pV:=qH (jP.o.trans (hk5.below hs4 (fun b hb hg=>by rcases hg with h|h;(·have:=Xx.o b h;omega);(·have:=Sm.o.2;omega))));generalize bE x4 _=x5 at*;clear hr5 hk5 hR5;go_wp2_with fail;refine(ze w5 G F R5 br bj bd bi _ j _ _ HR5.o).mono ?_;rintro r w6⟨rfl,rfl⟩;go_wp2;go_ret;exact⟨rfl,pV.o⟩
def Ed(ds:List Ev):Bool:=decide (ds.length≤30)&&!ds.any (fun d=>lV d 300)&&ds.all aK
theorem Es{ds:List Ev}(h:ds.any (fun d=>lV d 300)=false): ∀e∈ds,e.small:=fun e he=>by have:=List.any_eq_false.1 h e he;unfold lV at this;simp only[Bool.or_eq_true,decide_eq_true_eq,not_or,Int.not_lt]at this;exact⟨by omega,by omega,by omega,by omega⟩
theorem JG(w:World)(A:Option Addr)(n c:Nat)(ds:List Ev)(h:gH w w.heap.size A n c ds)(hn:n≤140737488355328):Calls Tryz.prog 9 #[.slice A n c] w (Says (Ed ds) w):=by
 have HH:=qH h;have HF:=qS (Ed ds=(decide (n≤30)&&!ds.any (fun d=>lV d 300)&&ds.all aK)) (by unfold Ed;rw[h.len]);clear h;by_cases h30:n≤30
 ·have t1:(n:Int)≤30:=by omega
  have HD:=qS (decide (n≤30)=true) (by simp[h30]);go_enter Tryz.func9,Tryz.ntmps9;go_wp2_with fail;refine(LY w A n c ds HH.o hn 300).mono ?_;rintro r w1⟨rfl,hb1⟩;have HS:=qH (@Es ds);cases hs:ds.any (fun d=>lV d 300);·have sw:=qH (HS.o hs);have wE:=qS (Ed ds=ds.all aK) (by rw[HF.o,HD.o,hs];rfl);have HE:=qS (gH w1 w1.heap.size A n c ds) (ax.more (ax.below HH.o hb1) hb1.size);clear hs;go_wp2_with fail;refine(KS w1 A n c ds HE.o hn sw.o).mono ?_;rintro r w2⟨rfl,hb2⟩;have hbw:Below w.heap.size w w2:=hb1.trans (hb2.mono hb1.size);clear hb2;generalize ds.all aK=b at*;go_wp2;go_ret;exact⟨aa wE.o.symm,hbw⟩
  ·have wE:=qS (Ed ds=false) (by rw[HF.o,HD.o,hs];rfl);clear hs;go_wp2;go_ret;exact⟨aa wE.o.symm,hb1⟩
 ·have t1: ¬(n:Int)≤30:=by omega
  have HD:=qS (Ed ds=false) (by rw[HF.o,decide_eq_false h30];rfl);go_enter Tryz.func9,Tryz.ntmps9;go_wp2;go_ret;exact⟨aa HD.o.symm,Below.refl _ _⟩
def zS(w:World)(N:Nat)(x:aG)(e:Ending)(w':World):Prop:= ∃bi F,e=.returned (.pointer (some ⟨bi,0,none⟩))∧bN w' F bi N x∧RowKit.Below w.heap.size w w'∧ ∀b,F b→w.heap.size≤b
theorem JF(w:World)(G F R:Nat→Prop)(br bj bd bi N:Nat)(j:Jl)(x:aG)(off:Nat)(h:iQ w G F R br bj bd bi N j x off)(hx:fF N x)(hN:N≤600)(hmx:aW w)(he:iO w)(ht:Lib.TabBelow Tryz.prog w.heap.size w "internal/strconv.uint64pow10" .u64 Lib.pow10Tab):Calls Tryz.prog 21 #[.pointer (some ⟨br,0,none⟩)] w (zS w N x):=by
 obtain⟨c0,c1,c2⟩:=h.cells;have HI:=qH h.it;have HX:=qH hx;have kL:=qH hmx;have HE:=qH he;have HT:=qH ht;clear h hx hmx he ht;go_enter Tryz.func21,Tryz.ntmps21;go_wp2_with fail;with_reducible refine(JY w R bi N x HI.o (by omega) kL.o HT.o).mono ?_
 rintro r w1⟨vc,vh,vt,vl,vg,rr,rfl,hV,hb1⟩;have HV:=qH hV;have HB1:=qH hb1;clear hV hb1;go_wp2_with fail;with_reducible refine(NW HX.o hN HV.o (kL.o.up HB1.o) (HE.o.up HB1.o) (wK HT.o HB1.o)).mono ?_
 rintro r w2⟨b2,F2,rfl,h2,hb2,hF2⟩;have HR:=qS (zS w N x (.returned (.pointer (some ⟨b2,0,none⟩))) w2) (⟨b2,F2,rfl,h2,HB1.o.trans (hb2.mono HB1.o.size),fun b hb=>Nat.le_trans HB1.o.size (hF2 b hb)⟩);clear h2 hb2 hF2;go_wp2;go_ret;exact HR.o
theorem QN(x:aG)(a b:List Ev):bE x (a++b)=bE (bE x a) b:=by unfold bE;rw[List.foldl_append]
theorem Ke{w:World}{F:Nat→Prop}{bi N:Nat}{x:aG}(h:bN w F bi N x):dU N x∧eu x.aI:=by obtain⟨A,hM,hO,_⟩:=h;exact⟨hO,hM.aI.ok⟩
theorem iQ.more{w:World}{G F R:Nat→Prop}{br bj bd bi N M:Nat}{j:Jl}{x:aG}{off:Nat}(h:iQ w G F R br bj bd bi N j x off)(hN:N≤M):iQ w G F R br bj bd bi M j x off:=⟨h.jl,h.it.more hN,h.blk,h.nr,h.rj,h.ml⟩
end Go.Proofs.YtladegonienapaaGreatDoor
