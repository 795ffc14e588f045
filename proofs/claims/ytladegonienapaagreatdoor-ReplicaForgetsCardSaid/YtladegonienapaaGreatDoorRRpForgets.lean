/-
  The law ReplicaForgets, walked.
-/
import Derived.Test.YtladegonienapaaGreatDoorRRpAsOf
set_option maxRecDepth 100000
set_option maxHeartbeats 16000000
namespace Go.Proofs.YtladegonienapaaGreatDoor
open Go.RowKit Go.Maps Go.Sort Go.Shelf
def fq(p:List UInt8)(e:Ev):Bool:=(e.per==p)&&(e.kind==14)
def wm(w:World)(es fs:List Ev)(p:List UInt8)(v g i:Value)(wr:World):Prop:= ∃k:Nat,i=.int .i64 k∧k≤es.length∧((es.take k).map aO).Nodup∧g=.bool ((fs.take k).any (fq p))∧aU wr w.heap.size v ((fs.take k).filter (bX p))∧RowKit.Below w.heap.size w wr
def Nz(w1 w2:World)(es:List Ev)(e:Ev)(j:Value)(wz:World):Prop:= ∃k:Nat,j=.int .i64 k∧k≤es.length∧(∀a∈es.take k,aO a≠aO e)∧RowKit.Below w1.heap.size w1 wz∧RowKit.Below w2.heap.size w2 wz
theorem O0{es:List Ev}{N k:Nat}(hk:k<N)(hke:k<es.length):(es.take N).take (k+1)=(es.take N).take k++[es[k]]:=by rw[List.take_add_one,List.getElem?_take,if_pos hk,List.getElem?_eq_getElem hke];rfl
theorem MB{es:List Ev}{N k:Nat}(hk:N≤k):(es.take N).take (k+1)=(es.take N).take k:=by rw[List.take_take,List.take_take,Nat.min_eq_right (by omega),Nat.min_eq_right (by omega)]
theorem rZ{l:List Ev}{p:List UInt8}(x:Ev):(l++[x]).filter (bX p)=l.filter (bX p)++(if bX p x then[x]else[]):=by rw[List.filter_append];congr 1;simp[List.filter_cons]
theorem xk{l:List Ev}{p:List UInt8}(x:Ev):(l++[x]).any (fq p)=(l.any (fq p)||fq p x):=by simp
theorem wE{r ks:List (List UInt8)}(h:jq r ks):r.length≤ks.length:=by
 have hnd:r.Nodup:=List.pairwise_iff_getElem.2 fun i j hi hj hij e=>by have:=List.pairwise_iff_getElem.1 h.1 i j hi hj hij;rw[e]at this;exact pE _ this
 have key: ∀(r ks:List (List UInt8)),r.Nodup→(∀x,x∈r→x∈ks)→r.length≤ks.length:=by intro r;induction r with|nil=>intro ks _ _;simp|cons a l ih=>intro ks hnd hsub;have hnd':=List.nodup_cons.1 hnd;have ha:a∈ks:=hsub a List.mem_cons_self;have:=ih (ks.erase a) hnd'.2 (fun x hx=>by have hxa:x≠a:=fun e=>hnd'.1 (by rw[←e];exact hx);exact(List.mem_erase_of_ne hxa).2 (hsub x (List.mem_cons_of_mem _ hx)));rw[List.length_erase_of_mem ha]at this;have:=List.length_pos_of_mem ha;simp only[List.length_cons];omega
 exact key r ks hnd fun x hx=>(h.2 x).1 hx
theorem xu(l:List Ev): ∀x:az,(av x l).gone.length≤x.gone.length+l.length:=by
 induction l with
  |nil=>intro x;exact Nat.le_refl _
  |cons e l ih=>
   intro x;have h1:=ih (x.admits e);have h2:(x.admits e).gone.length≤x.gone.length+1:=by
    unfold az.admits;split;·omega
    ·unfold az.took;split;·show(e.per::x.gone).length≤_;simp
     ·exact Nat.le_succ _
   have h3:av x (e::l)=av (x.admits e) l:=rfl;rw[h3,List.length_cons];omega
theorem uA(w:World)(A:Option Addr)(n c:Nat)(es:List Ev)(h:eD w w.heap.size A n c es)(hn:n≤140737488355328)(p:List UInt8)(_hp:p.length≤140737488355328)(z:Int)(hmx:aM w):Calls Tryz.prog 3 #[.slice A n c,.string ⟨p.toArray⟩,.int .i64 z] w (Says true w):=by
 have HH:=qH h;have dO:=qH hmx;have HL:=qH h.len;clear h hmx;obtain⟨i0,hi,hz0,hz1,hz2⟩:=info_parts jX;have HI:=qH hi;have HZ0:=qH hz0;have HZ1:=qH hz1;have HZ2:=qH hz2;clear hi hz0 hz1 hz2;go_enter Tryz.func3,Tryz.ntmps3;go_wp2_with fail;refine(iV w dO.o).mono ?_;rintro r w1⟨rfl,hb1⟩;have HB1:=qH hb1;have qR:=qS (eD w1 w1.heap.size A n c es) (aI.more (aI.below HH.o hb1) hb1.size);clear hb1;go_wp2_with fail;refine(lM w1 A n c es qR.o hn).mono ?_;rintro r w2⟨rfl,hb2⟩;have HB2:=qH (HB1.o.trans (hb2.mono HB1.o.size));clear hb2 qR;cases hfw:ow es;case false=>clear hfw;go_wp2;go_ret;exact⟨rfl,HB2.o⟩
 have hfw2:(es.length≤30∧es.any (fun d=>gN d 300)=false)∧es.all aB=true:=by unfold ow at hfw;simpa using hfw
 have Ce:=qH hfw2.2;have hn30:n≤30:=by have:=HL.o;omega
 clear hfw hfw2;by_cases hpl:100<p.length
 ·have t1:(100:Int)<p.length:=by omega
  go_wp2;go_ret;exact⟨rfl,HB2.o⟩
 have t1: ¬(100:Int)<p.length:=by omega
 by_cases hz:z<0;·go_wp2;go_ret;exact⟨rfl,HB2.o⟩
 by_cases hzn:(n:Int)<z;·go_wp2;go_ret;exact⟨rfl,HB2.o⟩
 obtain⟨N,rfl⟩:=Int.eq_ofNat_of_zero_le (show 0≤z by omega);have Yj:N≤n:=by omega
 obtain⟨fs,hfs⟩: ∃fs,fs=es.take N:=⟨_,rfl⟩;have LA:=qH hfs;have hs2:=HB2.o.size;have HST:=qS (wm w es fs p (.slice none 0 0) (.bool false) (.int .i64 0) w2) (⟨0,rfl,Nat.zero_le _,by simp,by simp,by rw[List.take_zero];exact World.ownsRow_nil _ _ _ _,HB2.o⟩);clear hfs;go_wp2;generalize decide (100<(p.length:Int))=q1;generalize decide ((N:Int)<0)=q2;generalize decide (n<N)=q3;go_loopw[7,8,9](fun v g i wr=>wm w es fs p v g i wr)(fun _ _ i _=>n-(intOf i).toNat);case atStart=>exact HST.o
 case round=>
  obtain⟨k,rfl,hk,hnd,rfl,ho,hbel⟩:=hrel;have Kr:=qH hnd;have HO:=qH ho;have HB:=qH hbel;have QC:k≤n:=by rw[←HL.o];exact hk
  have qX:=hbel.size;clear hnd ho HST;by_cases hkn:k<n
  ·have hkl:k<es.length:=by rw[HL.o];exact hkn
   obtain⟨b,off,hA,hb,hev⟩:=HH.o.ev k hkl;subst hA;have VF:=qS (∀W,RowKit.Below w.heap.size w W→xL W b (off+k*8) es[k]) (fun W hW=>hev.below hW hb);have t2:(k:Int)<n:=by omega
   have Xa:=qS (es.take (k+1)=es.take k++[es[k]]) (by rw[List.take_add_one,List.getElem?_eq_getElem hkl];rfl);have KC:=qS (k<N→fs.take (k+1)=fs.take k++[es[k]]) (fun hh=>by rw[LA.o];exact O0 hh hkl);have PL:=qS (N≤k→fs.take (k+1)=fs.take k) (fun hh=>by rw[LA.o];exact MB hh);have NM:=qS ((es.take k).length=k) (by rw[List.length_take];omega);have tZ:=qS ((fs.take k).length≤30) (by rw[LA.o,List.length_take,List.length_take];omega);generalize es[k]=e at*;have I7:=qS (Nz w wr (es.take k) e (.int .i64 0) wr) (⟨0,rfl,Nat.zero_le _,fun a ha=>by simp at ha,HB.o,Below.refl _ _⟩);clear hev;go_wp2;go_loopw[10](fun j wz=>Nz w wr (es.take k) e j wz)(fun j _=>k-(intOf j).toNat);case atStart=>exact I7.o
   case round=>
    obtain⟨j,rfl,hj,hno,hbz,hbr⟩:=hrel;have uu:=qH hno;have Dm:=qH hbz;have TF:=qH hbr;have hjk:j≤k:=by rw[←NM.o];exact hj
    clear hno I7 hbz hbr;generalize wr=wz at*;have Lj:=qH (HO.o.keep (fun b' hb'=>TF.o.block b' (HO.o.lt hb')));by_cases hjn:j<k
    ·have t3:(j:Int)<k:=by omega
     have hjl:j<es.length:=by omega
     obtain⟨b',off',q,hb',hev2⟩:=HH.o.ev j hjl;injection q with q;injection q with q1 q2;subst q1 q2;have hjt:j<(es.take k).length:=by rw[NM.o];exact hjn
     have Vz:=qS ((es.take k)[j]=es[j]) (List.getElem_take ..);have Xb:=qS ((es.take k).take (j+1)=(es.take k).take j++[es[j]]) (by rw[List.take_add_one,List.getElem?_eq_getElem hjt,Vz.o];rfl);have IJ:=qS (∀W,RowKit.Below w.heap.size w W→xL W b (off+j*8) es[j]) (fun W hW=>hev2.below hW hb);generalize es[j]=y at*;have Wm:(j:Int)<n:=by omega
     have eZ:=qS (∀W:World,RowKit.Below wz.heap.size wz W→(W.cell? ⟨b,off+k*8,none⟩=some (.string ⟨e.src.toArray⟩)∧W.cell? ⟨b,off+k*8+1,none⟩=some (.int .i64 e.num)∧W.cell? ⟨b,off+k*8+2,none⟩=some (.int .i64 e.at_)∧W.cell? ⟨b,off+k*8+3,none⟩=some (.int .i64 e.kind)∧W.cell? ⟨b,off+k*8+4,none⟩=some (.string ⟨e.per.toArray⟩)∧W.cell? ⟨b,off+k*8+5,none⟩=some (.string ⟨e.item.toArray⟩)∧W.cell? ⟨b,off+k*8+6,none⟩=some (.int .i64 e.val)∧W.cell? ⟨b,off+k*8+7,none⟩=some (.string ⟨e.text.toArray⟩)∧W.cell? ⟨b,off+j*8,none⟩=some (.string ⟨y.src.toArray⟩)∧W.cell? ⟨b,off+j*8+1,none⟩=some (.int .i64 y.num)∧W.cell? ⟨b,off+j*8+2,none⟩=some (.int .i64 y.at_)∧W.cell? ⟨b,off+j*8+3,none⟩=some (.int .i64 y.kind)∧W.cell? ⟨b,off+j*8+4,none⟩=some (.string ⟨y.per.toArray⟩)∧W.cell? ⟨b,off+j*8+5,none⟩=some (.string ⟨y.item.toArray⟩)∧W.cell? ⟨b,off+j*8+6,none⟩=some (.int .i64 y.val)∧W.cell? ⟨b,off+j*8+7,none⟩=some (.string ⟨y.text.toArray⟩))) (fun W hW=>by obtain⟨a0,a1,a2,a3,a4,a5,a6,a7⟩:=VF.o W (Dm.o.trans (hW.mono Dm.o.size));obtain⟨b0,b1,b2,b3,b4,b5,b6,b7⟩:=IJ.o W (Dm.o.trans (hW.mono Dm.o.size));exact⟨a0,a1,a2,a3,a4,a5,a6,a7,b0,b1,b2,b3,b4,b5,b6,b7⟩);have HCM:=qS (∀W,Calls Tryz.prog 10 #[.agg #[.string ⟨e.src.toArray⟩,.int .i64 e.num,.int .i64 e.at_,.int .i64 e.kind,.string ⟨e.per.toArray⟩,.string ⟨e.item.toArray⟩,.int .i64 e.val,.string ⟨e.text.toArray⟩],.agg #[.string ⟨y.src.toArray⟩,.int .i64 y.num,.int .i64 y.at_,.int .i64 y.kind,.string ⟨y.per.toArray⟩,.string ⟨y.item.toArray⟩,.int .i64 y.val,.string ⟨y.text.toArray⟩]] W (Says (ql e y) W)) (fun W=>Bp W e y);have HX:=qS (RowKit.Below wz.heap.size wz wz.drew) ((Below.refl _ _).drew);have hS:=eZ.o _ (Below.refl _ _);clear hev2 hjt hjl Vz;go_wp2;go_region_held3(fun W=>W.cell? ⟨b,off+k*8,none⟩=some (.string ⟨e.src.toArray⟩)∧W.cell? ⟨b,off+k*8+1,none⟩=some (.int .i64 e.num)∧W.cell? ⟨b,off+k*8+2,none⟩=some (.int .i64 e.at_)∧W.cell? ⟨b,off+k*8+3,none⟩=some (.int .i64 e.kind)∧W.cell? ⟨b,off+k*8+4,none⟩=some (.string ⟨e.per.toArray⟩)∧W.cell? ⟨b,off+k*8+5,none⟩=some (.string ⟨e.item.toArray⟩)∧W.cell? ⟨b,off+k*8+6,none⟩=some (.int .i64 e.val)∧W.cell? ⟨b,off+k*8+7,none⟩=some (.string ⟨e.text.toArray⟩)∧W.cell? ⟨b,off+j*8,none⟩=some (.string ⟨y.src.toArray⟩)∧W.cell? ⟨b,off+j*8+1,none⟩=some (.int .i64 y.num)∧W.cell? ⟨b,off+j*8+2,none⟩=some (.int .i64 y.at_)∧W.cell? ⟨b,off+j*8+3,none⟩=some (.int .i64 y.kind)∧W.cell? ⟨b,off+j*8+4,none⟩=some (.string ⟨y.per.toArray⟩)∧W.cell? ⟨b,off+j*8+5,none⟩=some (.string ⟨y.item.toArray⟩)∧W.cell? ⟨b,off+j*8+6,none⟩=some (.int .i64 y.val)∧W.cell? ⟨b,off+j*8+7,none⟩=some (.string ⟨y.text.toArray⟩))(first|assumption|exact eZ.o _ HX.o|go_keep)((go_at_call 10;(with_reducible refine(HCM.o _).mono ?_);rintro r9 w9⟨rfl,hb9⟩;have Db:=qH (HX.o.trans (hb9.mono HX.o.size));clear HX;have HX:=Db;clear Db;(try clear hS);have hS:=eZ.o _ HX.o;clear hb9));clear hS eZ HCM IJ;cases hsi:ql e y
     ·have gI:=qS (Nz w _ (es.take k) e (.int .i64 ((j+1:Nat):Int)) w9) (⟨j+1,rfl,by rw[NM.o];omega,(fun a ha=>by
       rw[Xb.o]at ha;rcases List.mem_append.1 ha with ha|ha;·exact uu.o a ha
       ·rw[List.mem_singleton]at ha;rw[ha];intro hc;rw[FM.2 hc.symm]at hsi;cases hsi),Dm.o.trans (HX.o.mono Dm.o.size),TF.o.trans (HX.o.mono TF.o.size)⟩);clear hsi;go_wp2;go_roundw;case rel=>exact gI.o
      case measure=>simp[intOf];omega
     ·have hbw9:RowKit.Below w.heap.size w w9:=Dm.o.trans (HX.o.mono Dm.o.size);clear hsi;go_wp2;go_ret;exact⟨rfl,hbw9⟩
    ·have t3: ¬(j:Int)<k:=by omega
     have Lp:=qS (((es.take (k+1)).map aO).Nodup) (by have h1:=uu.o;rw[List.take_of_length_le (by rw[NM.o];omega)]at h1;rw[Xa.o,List.map_append,List.nodup_append];refine⟨Kr.o,by simp,fun a ha b' hb' hab=>?_⟩;obtain⟨x,hx,rfl⟩:=List.mem_map.1 ha;rw[List.map_singleton,List.mem_singleton]at hb';exact h1 x hx (hab.trans hb'));obtain⟨e0,e1,e2,e3,e4,e5,e6,e7⟩:=VF.o wz Dm.o;have hsz:=Dm.o.size;by_cases hkN:k<N
     ·have t4:(k:Int)<N:=by omega
      have HT:=qH (KC.o hkN);cases hp:(e.per==p)
      ·have Ad:=qS ((fs.take (k+1)).any (fq p)=(fs.take k).any (fq p)) (by rw[HT.o,xk];unfold fq;rw[hp];simp);have Qi:=qS ((fs.take (k+1)).filter (bX p)=(fs.take k).filter (bX p)++[e]) (by rw[HT.o,rZ];unfold bX;simp[bne,hp]);have hpn:(e.per !=p)=true:=by simp[bne,hp]
       generalize(fs.take k).any (fq p)=g at*;have hlk:((fs.take k).filter (bX p)).length≤30:=by have:=tZ.o;have:=List.length_filter_le (bX p) (fs.take k);omega
       generalize(fs.take k).filter (bX p)=out at*;go_wp2_with(at_builtin;refine aJ (P:=Tryz.prog) rfl (.tmp 97) (.tmp 102) 22 rfl 28 i0 _ 8 96 Tryz.underlying22 HI.o HZ0.o HZ1.o HZ2.o rfl (by decide) w.heap.size _ out.length (au out) rfl ?c1 (wz.heap.size+1) _ _ _ e.cells rfl ?c2 (cells_one e) ?c4 ?c5 ?c6 ?_);case c1=>exact World.ownsRow.alloc Lj.o _
       case c2=>exact aI.new wz _ _ (by unfold maxLen;omega) rfl
       case c4=>unfold maxLen;omega
       case c5=>omega
       case c6=>first|omega|(simp;omega)
       intro v' w3 hown3 hg3 hvv;have hown4:aU w3 w.heap.size v' (out++[e]):=by unfold aU;rw[gG,List.length_append];exact hown3
       have gI:=qS (wm w es fs p v' (.bool g) (.int .i64 ((k+1:Nat):Int)) w3) (⟨k+1,rfl,hkl,Lp.o,by rw[Ad.o],by rw[Qi.o];exact hown4,Below.grown (Dm.o.alloc hsz _) hg3 (by simp;omega) (fun k' hk'=>(World.ownsRow.lt Lj.o k' hk').1)⟩);clear hown3 hown4 hg3 hvv e0 e1 e2 e3 e4 e5 e6 e7;go_wp2;go_roundw;case rel=>exact gI.o
       case measure=>simp[intOf];omega
      ·have hpn:(e.per !=p)=false:=by simp[bne,hp]
       cases hk14:(e.kind==14)
       ·have Ad:=qS ((fs.take (k+1)).any (fq p)=(fs.take k).any (fq p)) (by rw[HT.o,xk];unfold fq;rw[hp,hk14];simp);have Qi:=qS ((fs.take (k+1)).filter (bX p)=(fs.take k).filter (bX p)) (by rw[HT.o,rZ];unfold bX;simp[hpn,hk14]);have gI:=qS (wm w es fs p _ (.bool ((fs.take k).any (fq p))) (.int .i64 ((k+1:Nat):Int)) wz) (⟨k+1,rfl,hkl,Lp.o,by rw[Ad.o],by rw[Qi.o];exact Lj.o,Dm.o⟩);generalize(fs.take k).any (fq p)=g at*;go_wp2;go_roundw;case rel=>exact gI.o
        case measure=>simp[intOf];omega
       ·have Ad:=qS ((fs.take (k+1)).any (fq p)=true) (by rw[HT.o,xk];unfold fq;rw[hp,hk14];simp);have Qi:=qS ((fs.take (k+1)).filter (bX p)=(fs.take k).filter (bX p)++[e]) (by rw[HT.o,rZ];unfold bX;simp[hk14]);generalize(fs.take k).any (fq p)=g at*;have hlk:((fs.take k).filter (bX p)).length≤30:=by have:=tZ.o;have:=List.length_filter_le (bX p) (fs.take k);omega
        generalize(fs.take k).filter (bX p)=out at*;go_wp2_with(at_builtin;refine aJ (P:=Tryz.prog) rfl (.tmp 97) (.tmp 102) 22 rfl 28 i0 _ 8 96 Tryz.underlying22 HI.o HZ0.o HZ1.o HZ2.o rfl (by decide) w.heap.size _ out.length (au out) rfl ?c1 (wz.heap.size+1) _ _ _ e.cells rfl ?c2 (cells_one e) ?c4 ?c5 ?c6 ?_);case c1=>exact World.ownsRow.alloc Lj.o _
        case c2=>exact aI.new wz _ _ (by unfold maxLen;omega) rfl
        case c4=>unfold maxLen;omega
        case c5=>omega
        case c6=>first|omega|(simp;omega)
        intro v' w3 hown3 hg3 hvv;have hown4:aU w3 w.heap.size v' (out++[e]):=by unfold aU;rw[gG,List.length_append];exact hown3
        have gI:=qS (wm w es fs p v' (.bool true) (.int .i64 ((k+1:Nat):Int)) w3) (⟨k+1,rfl,hkl,Lp.o,by rw[Ad.o],by rw[Qi.o];exact hown4,Below.grown (Dm.o.alloc hsz _) hg3 (by simp;omega) (fun k' hk'=>(World.ownsRow.lt Lj.o k' hk').1)⟩);clear hown3 hown4 hg3 hvv e0 e1 e2 e3 e4 e5 e6 e7;go_wp2;go_roundw;case rel=>exact gI.o
        case measure=>simp[intOf];omega
     ·have t4: ¬(k:Int)<N:=by omega
      have HT:=qH (PL.o (by omega));have gI:=qS (wm w es fs p _ (.bool ((fs.take k).any (fq p))) (.int .i64 ((k+1:Nat):Int)) wz) (⟨k+1,rfl,hkl,Lp.o,by rw[HT.o],by rw[HT.o];exact Lj.o,Dm.o⟩);generalize(fs.take k).any (fq p)=g at*;go_wp2;go_roundw;case rel=>exact gI.o
      case measure=>simp[intOf];omega
  ·have t2: ¬(k:Int)<n:=by omega
   have Mr:k=es.length:=by have:=HL.o;omega
   have MR:=qS (es.take k=es) (List.take_of_length_le (by omega));have Xc:=qS (fs.take k=fs) (List.take_of_length_le (by rw[LA.o,List.length_take];omega));have SL:=qS ((es.map aO).Nodup) (by have:=Kr.o;rw[MR.o]at this;exact this);rw[Xc.o]at HO⊢;have hfl:fs.length=N:=by rw[LA.o,List.length_take];have:=HL.o;omega
   have tZ:=qH hfl;have XZ:=qS ((fs.map aO).Nodup) (by rw[LA.o];exact((List.take_sublist N es).map aO).nodup SL.o);have LB:=qS (∀e∈fs,aB e=true) (fun e he=>List.all_eq_true.1 Ce.o e (by rw[LA.o]at he;exact List.mem_of_mem_take he));have Lx:=qS (es.take N=fs) (LA.o.symm);have XO:=qS (eD wr wr.heap.size A n c es) (aI.more (aI.below HH.o hbel) hbel.size);have Yf:es.length=n:=HL.o;clear Kr Mr hfl;cases hg:fs.any (fq p);·go_wp2;go_ret;exact⟨rfl,HB.o⟩
   ·have hgb:nI fs p:=by obtain⟨f,h1,h2⟩:=List.any_eq_true.1 hg;unfold fq at h2;rw[Bool.and_eq_true,beq_iff_eq,beq_iff_eq]at h2;exact⟨f,h1,LB.o f h1,h2.2,h2.1⟩
    have VE:=qH (wS XZ.o (by rw[tZ.o];omega) hgb);have We:(fs.filter (bX p)).length≤30:=by have:=List.length_filter_le (bX p) fs;have:=tZ.o;omega
    have XF:=qS ((fs.filter (bX p)).all aB=true) (List.all_eq_true.2 fun e he=>LB.o e (List.mem_filter.1 he).1);generalize fs.filter (bX p)=ls at*;obtain⟨B3,c3,hv3,_⟩:=HO.o.form;subst hv3;clear hg hgb;go_wp2_with fail;refine(jv wr A n c es XO.o (by omega) Ce.o 4 (by omega) (by omega) (dO.o.up HB.o)).mono ?_;rintro r w1⟨bd,bj,G,F,j,rfl,hj1,_,hb1,hes1⟩;have P8:=qH hj1;have Tq:=qH hes1;have Nu:=qH (HB.o.trans (hb1.mono qX));have SX:=qS (eD w1 w1.heap.size B3 ls.length c3 ls) (aI.more (aI.below (aI.bz HO.o) hb1) hb1.size);clear hj1 hb1 hes1;go_wp2_with fail;refine(jv w1 B3 ls.length c3 ls SX.o (by omega) XF.o 4 (by omega) (by omega) (dO.o.up Nu.o)).mono ?_;rintro r w2⟨bd2,bj2,G2,F2,j2,rfl,hj2,_,hb2,hes2⟩;have HJ2:=qH hj2;have Tp:=qH hes2;have Ta:=qH (P8.o.up hb2);have Nt:=qH (Nu.o.trans (hb2.mono Nu.o.size));clear hj2 hb2 hes2;go_wp2_with fail;refine(mP w2 G F bj bd j Ta.o es Tq.o 0 0 N (by omega) (by omega) (dO.o.up Nt.o)).mono ?_;rintro r w3⟨bi,R,rfl,Mv,hb3,_⟩;rw[Lx.o]at Mv;have HI3:=qH Mv;have S9:=qH (HJ2.o.up hb3);have HB3:=qH (Nt.o.trans (hb3.mono Nt.o.size));clear Mv hb3;go_wp2_with fail;refine(mP w3 G2 F2 bj2 bd2 j2 S9.o ls Tp.o 0 0 ls.length (by omega) (by omega) (dO.o.up HB3.o)).mono ?_;rintro r w4⟨bi2,R2,rfl,NJ,hb4,_⟩;rw[List.take_of_length_le (Nat.le_refl _)]at NJ;have HI4:=qH NJ;have Qa:=qH (HI3.o.up hb4);have fA:=qH (HB3.o.trans (hb4.mono HB3.o.size));clear NJ hb4;have fH:=qH VE.o.1;have Qh:=qH VE.o.2;generalize av (az.new 0 0) fs=x at*;have hyg:(av (az.new 0 0) ls).gone.length≤30:=by have:=xu ls (az.new 0 0);have h0:(az.new 0 0).gone.length=0:=rfl;omega
    generalize av (az.new 0 0) ls=y at*;go_wp2_with fail;refine(iE w4 R bi _ x Qa.o (by omega)).mono ?_;rintro r w5⟨v5,rfl,ho5,hb5⟩;obtain⟨B5,c5,hv5,_⟩:=ho5.form;subst hv5;have Qk:=qS (eD w5 w5.heap.size B5 x.taken.length c5 x.taken) (aI.bz ho5);have Le:=qH (Qa.o.up hb5);have U0:=qH (HI4.o.up hb5);have jJ:=qH (fA.o.trans (hb5.mono fA.o.size));have hx5:x.taken.length≤100000:=by obtain⟨A,_,hO,_⟩:=Le.o;exact Nat.le_trans hO.taken (by omega)
    clear ho5 hb5;go_wp2_with fail;refine(iE w5 R2 bi2 _ y U0.o (by omega)).mono ?_;rintro r w6⟨v6,rfl,ho6,hb6⟩;rw[←fH.o]at ho6;obtain⟨B6,c6,hv6,_⟩:=ho6.form;subst hv6;have QY:=qS (eD w6 w6.heap.size B6 x.taken.length c6 x.taken) (aI.bz ho6);have Tu:=qS (eD w6 w6.heap.size B5 x.taken.length c5 x.taken) (aI.more (aI.below Qk.o hb6) hb6.size);have Ph:=qH (Le.o.up hb6);have WU:=qH (U0.o.up hb6);have rq:=qH (jJ.o.trans (hb6.mono jJ.o.size));clear ho6 hb6;go_wp2_with fail;refine(mK w6 _ _ B5 B6 _ c5 c6 _ Tu.o QY.o hx5).mono ?_;rintro r w7⟨rfl,q7,rfl⟩;have hb7:RowKit.Below w6.heap.size w6 (w6.drewN q7):=below_drewN (Below.refl _ _) q7;have Iq:=qH (Ph.o.up hb7);have WT:=qH (WU.o.up hb7);have nH:=qH (below_drewN rq.o q7);clear hb7;generalize w6.drewN q7=w7 at*;go_wp2_with fail;refine(jD w7 R bi _ x Iq.o (by omega)).mono ?_;rintro r w8⟨v8,rx,rfl,hrx,hox,hb8⟩;obtain⟨B8,c8,rfl⟩:=ownsRow_form hox;have z8:=qS (Strs w8 w8.heap.size B8 rx.length c8 rx) (aI.bz hox);have QK:=qH (WT.o.up hb8);have vY:=qH (nH.o.trans (hb8.mono nH.o.size));have Vd:=qH hrx;clear hox hb8 hrx;go_wp2_with fail;refine(jD w8 R2 bi2 _ y QK.o (by omega)).mono ?_;rintro r w9⟨v9,ry,rfl,Rc,hoy,hb9⟩;obtain rfl:ry=rx:=eT Rc ⟨Vd.o.1,fun r=>(Vd.o.2 r).trans (Qh.o r)⟩;obtain⟨B9,c9,rfl⟩:=ownsRow_form hoy;have BR:=qS (Strs w9 w9.heap.size B9 ry.length c9 ry) (aI.bz hoy);have Sr:=qS (Strs w9 w9.heap.size B8 ry.length c8 ry) (aI.more (aI.below z8.o hb9) hb9.size);have oP:=qH (vY.o.trans (hb9.mono vY.o.size));have hr9:ry.length≤100000:=by have:=wE Rc;omega
    clear hoy hb9 Rc;go_wp2_with fail;refine(uR w9 _ _ B8 B9 _ c8 c9 _ Sr.o BR.o hr9).mono ?_;rintro r w10⟨rfl,q10,rfl⟩;have mh:=qH (below_drewN oP.o q10);go_wp2;go_ret;exact⟨rfl,mh.o⟩
end Go.Proofs.YtladegonienapaaGreatDoor
