/-
  Layer 33: Intake; the law's: same.
-/
import Derived.Test.YtladegonienapaaGreatDoorROf
import Derived.Test.YtladegonienapaaGreatDoorRUni2
import Derived.LaidEqlPtr
import Derived.Test.YtladegonienapaaGreatDoorRRpAsOf
set_option maxRecDepth 100000
set_option maxHeartbeats 16000000
namespace Go.Proofs.YtladegonienapaaGreatDoor
open Go.RowKit Go.Maps Go.Sort Go.Shelf
theorem qB{e:Ev}(h:aB e=true):e.small:=by have:=iD h;exact⟨by have:=this.src;omega,by have:=this.per;omega,by have:=this.item;omega,by have:=this.text;omega⟩
theorem qm{r ks:List (List UInt8)}(h:jq r ks):r.length≤ks.length:=by
 have hnd:r.Nodup:=List.pairwise_iff_getElem.2 fun i j hi hj hij e=>by have:=List.pairwise_iff_getElem.1 h.1 i j hi hj hij;rw[e]at this;exact pE _ this
 have key: ∀(r ks:List (List UInt8)),r.Nodup→(∀x,x∈r→x∈ks)→r.length≤ks.length:=by intro r;induction r with|nil=>intro ks _ _;simp|cons a l ih=>intro ks hnd hsub;have hnd':=List.nodup_cons.1 hnd;have ha:a∈ks:=hsub a List.mem_cons_self;have:=ih (ks.erase a) hnd'.2 (fun x hx=>by have hxa:x≠a:=fun e=>hnd'.1 (by rw[←e];exact hx);exact(List.mem_erase_of_ne hxa).2 (hsub x (List.mem_cons_of_mem _ hx)));rw[List.length_erase_of_mem ha]at this;have:=List.length_pos_of_mem ha;simp only[List.length_cons];omega
 exact key r ks hnd fun x hx=>(h.2 x).1 hx
structure bL(N:Nat)(x:az):Prop where
 yE:bA x
 pt:eX x
 aG:fP x.aG
 ok:bU N x
 gone:x.gone.length≤N
theorem bL.GV{N:Nat}{x:az}(h:bL N x):(dZ x.aG).length≤100+69*N:=by have h1:=h.aG;have h2:=nM h1 x.aG.src.length;rw[List.take_length]at h2;have h3:=h.ok.src;have k1:=h1.ag;have k2:=h1.idle;have k3:=h1.now;have k4:=h1.mark;have h4:=lU [99,108,111,99,107] [x.aG.ag,x.aG.idle,x.aG.now,x.aG.mark] (by intro v hv;simp at hv;rcases hv with rfl|rfl|rfl|rfl<;>omega);simp only[List.length_cons,List.length_nil]at h4;unfold dZ;rw[List.length_append];omega
theorem bL.GR{N:Nat}{x:az}(h:bL N x)(hN:N≤600):(pM x.had).length≤1000000000:=by have h1:=bR (n:=x.had.length) (by have:=h.ok.had;omega);have h2:=zo h.yE.ok (fun p hp=>Nat.le_trans (h.ok.sM h.yE.ok p hp) (by omega)) x.had.length;rw[List.take_length]at h2;have h3:=h.ok.had;unfold pM;rw[List.length_append];omega
theorem bL.dc{N:Nat}{x:az}(h:bL N x):tC (dZ x.aG)=some x.aG:=G8 h.aG h.yE.FP
theorem bL.dh{N:Nat}{x:az}(h:bL N x)(hN:N≤600):oF (pM x.had)=.ok x.had []:=GZ h.yE.ok (by have:=h.ok.had;omega) (fun p hp=>by have:=h.ok.sM h.yE.ok p hp;omega)
theorem bL.bd{N:Nat}{x:az}(h:bL N x)(hN:N≤600):Kc N (dZ x.aG) (pM x.had):=⟨fun c hc=>by rw[h.dc]at hc;injection hc with hc;subst hc;exact h.ok.src,fun m r hm=>by rw[h.dh hN]at hm;injection hm with hm _;subst hm;exact⟨h.ok.had,h.ok.sM h.yE.ok⟩⟩
theorem bL.parts{N:Nat}{x:az}(h:bL N x)(hN:N≤600){r:List (List UInt8)}(hr:jq r x.gone):jg x.aG.ag x.aG.idle (dZ x.aG) (pM x.had) r x.taken x.late x.aG x.had:=⟨h.dc,⟨[],h.dh hN⟩,rfl,rfl,JQ h.pt hr,(h.yE.right h.pt (by have:=h.ok.taken;omega)).congr fun p=>(hr.2 p).symm⟩
theorem aS.MG{w:World}{F:Nat→Prop}{bi N:Nat}{x:az}{g:List (List UInt8)}(h:aS w F bi N {x with gone:=g})(hg: ∀p,p∈g↔p∈x.gone):aS w F bi N x:=by obtain⟨A,hM,hO,h3,h4,h5,h6⟩:=h;exact⟨A,⟨hM.blk,hM.aG,hM.had,hM.taken,hM.late,hM.dx,hM.gone.congr hg,hM.ml,hM.mg,hM.lg,hM.gm,hM.gl,hM.gg,hM.tl⟩,⟨hO.sorted,hO.may,hO.src,hO.had,hO.rows,hO.taken,hO.late⟩,h3,h4,h5,h6⟩
def Fb(w:World)(N:Nat)(x:az)(e:Ending)(w':World):Prop:= ∃bi F,e=.returned (.tuple #[.pointer (some ⟨bi,0,none⟩),.int .i64 0])∧aS w' F bi N x∧RowKit.Below w.heap.size w w'∧ ∀b,F b→w.heap.size≤b
theorem Hu{w:World}{B N:Nat}{x:az}(hx:bL N x)(hN:N≤600){vc vh vt vl vg:Value}{r:List (List UInt8)}(hV:pY w B x vc vh vt vl vg r)(hm:aM w)(he:eQ w)(ht:Lib.TabBelow Tryz.prog w.heap.size w "internal/strconv.uint64pow10" .u64 Lib.pow10Tab):Calls Tryz.prog 45 #[o8 x.aG.ag x.aG.idle vc vh vt vl vg] w (Fb w N x):=by
 obtain⟨Ac,kc,rfl⟩:=hV.aG.form;obtain⟨Ah,kh,rfl⟩:=hV.had.form;obtain⟨At,kt,rfl⟩:=ownsRow_form hV.taken;obtain⟨Al,kl,rfl⟩:=ownsRow_form hV.late;obtain⟨Ag,kg,rfl⟩:=ownsRow_form hV.gone;have hr:=qm hV.rise;have hlc:=hx.GV;refine(Mf w N Ac Ah At Al Ag _ kc _ kh _ kt _ kl _ kg x.aG.ag x.aG.idle (dZ x.aG) (pM x.had) x.taken x.late r {aG:=hV.aG.J4,had:=hV.had.J4,tk:=aI.bz hV.taken,le:=aI.bz hV.late,gn:=aI.bz hV.gone,hnc:=by omega,Uf:=hx.GR hN,hnt:=hx.ok.taken,hnl:=hx.ok.late,Bf:=by have:=hx.gone;omega,hN:=by omega,st:=fun e he=>qB (hx.ok.may e (.inl he)),sl:=fun e he=>qB (hx.ok.may e (.inr he)),max:=hm,errs:=he,tab:=ht,bd:=hx.bd hN}).mono ?_;rintro e w'⟨hb,⟨c,m,bi,F,hp,rfl,hi,hF⟩|⟨er,rfl,h1,h2⟩⟩
 ·have e1:c=x.aG:=by have:=hp.dc;rw[hx.dc]at this;injection this with this;exact this.symm
  have e2:m=x.had:=by obtain⟨q,hq⟩:=hp.dh;rw[hx.dh hN]at hq;injection hq with hq _;exact hq.symm
  subst e1 e2;exact⟨bi,F,rfl,aS.MG hi hV.rise.2,hb,hF⟩
 ·exact absurd (hx.parts hN hV.rise) (h2 _ _)
theorem bL.QI{ag idle:Int}{N:Nat}{l:List Ev}{x:az}(hx:x=av (az.new ag idle) l)(hok:bU N x)(hc:fP x.aG)(hl:l.length≤N):bL N x:=by
 subst hx;have key: ∀(l:List Ev)(x:az),bA x→eX x→bA (av x l)∧eX (av x l)∧(av x l).gone.length≤x.gone.length+l.length:=fun l=>by
  induction l with
   |nil=>exact fun x h1 h2=>⟨h1,h2,Nat.le_refl _⟩
   |cons e l ih=>
    intro x h1 h2;have h3:av x (e::l)=av (x.admits e) l:=rfl;rw[h3];obtain⟨k1,k2,k3⟩:=ih _ (h1.admits e) (h2.admits e);refine⟨k1,k2,?_⟩;have h2:(x.admits e).gone.length≤x.gone.length+1:=by
     unfold az.admits;split;·omega
     ·unfold az.took;split;·show(e.per::x.gone).length≤_;simp
      ·exact Nat.le_succ _
    rw[List.length_cons];omega
 obtain⟨k1,k2,k3⟩:=key l _ (bA.new ag idle) (eX.new ag idle);refine⟨k1,k2,hc,hok,?_⟩;have:(az.new ag idle).gone.length=0:=rfl;omega
def CW(w:World)(l1 l2:Rg)(e:Ending)(w':World):Prop:= ∃v rs,e=.returned v∧fu w' w.heap.size v rs∧RgOk rs∧(∀n,bS rs n=(bS l1 n||bS l2 n))∧rs.length≤l1.length+l2.length∧Below w.heap.size w w'
structure zJ(w:World)(g cp:Nat)(all out:Rg)(v:Value)(wr:World):Prop where
 own:fu wr w.heap.size v out
 all:fu wr w.heap.size (.slice (some ⟨g,0,none⟩) all.length cp) all
 ne:v.ownBlock≠some g
 fw:Below w.heap.size w wr
def tO(w:World)(g cp:Nat)(all:Rg)(v i:Value)(wr:World):Prop:= ∃k:Nat,i=.int .i64 k∧k≤all.length∧zJ w g cp all ((all.take k).foldl dH []) v wr
theorem fu.cell{w:World}{base:Nat}{rs:Rg}{g cap n:Nat}(h:fu w base (.slice (some ⟨g,0,none⟩) n cap) rs)(hn:n=rs.length)(k:Nat)(hk:k<rs.length):w.cell? ⟨g,k*2,none⟩=some (.int .i64 rs[k].1)∧w.cell? ⟨g,k*2+1,none⟩=some (.int .i64 rs[k].2)∧w.frozen? ⟨g,k*2+1,none⟩=false:=by
 subst hn;have hg:=iX rs k hk;refine⟨?_,?_,World.ownsRow.frozenAt h _⟩;·rw[World.ownsRow.cellAt h (k*2) (by omega)];exact hg.1
 ·rw[World.ownsRow.cellAt h (k*2+1) (by omega)];exact hg.2
theorem yF{w:World}{base base' n:Nat}{e:TypeId}{size:Nat}{v:Value}{xs:List Value}(h:w.ownsRow base e size v n xs)(hb:base'≤base):w.ownsRow base' e size v n xs:=by
 refine⟨h.1,?_⟩;rcases h.2 with h'|⟨g,cap,cur,e,hb',r⟩;·exact .inl h'
 ·exact .inr ⟨g,cap,cur,e,Nat.le_trans hb hb',r⟩
theorem zJ.up{w wr w2:World}{g cp:Nat}{all out:Rg}{v:Value}(h:zJ w g cp all out v wr)(hb:Below wr.heap.size wr w2):zJ w g cp all out v w2:=⟨ownsRow_below h.own hb (Nat.le_refl _),ownsRow_below h.all hb (Nat.le_refl _),h.ne,h.fw.trans (hb.mono h.fw.size)⟩
theorem zJ.app{w wr w2:World}{g cp:Nat}{all out out':Rg}{v v':Value}(h:zJ w g cp all out v wr)(ho:fu w2 w.heap.size v' out')(hg:wr.grownBy w2 v.ownBlock)(hv:v'.ownBlock=v.ownBlock∨v'.ownBlock=some wr.heap.size):zJ w g cp all out' v' w2:=by
 refine⟨ho,World.ownsRow.kept h.all hg (.inr (Ne.symm h.ne)),?_,Below.grown h.fw hg h.fw.size (fun k hk=>(World.ownsRow.lt h.own k hk).1)⟩;rcases hv with e|e;·rw[e];exact h.ne
 ·rw[e];intro e';injection e' with e';have:=(World.ownsRow.lt h.all g rfl).2;omega
theorem Gn{out:Rg}{j:Nat}(hj:j=out.length)(h0:0<j)(r:Int×Int):dH out r=if r.1≤(out[j-1]'(by omega)).2 then out.set (j-1) ((out[j-1]'(by omega)).1,max (out[j-1]'(by omega)).2 r.2)else out++[r]:=by
 rcases List.eq_nil_or_concat out with rfl|⟨i,l,rfl⟩;·simp at hj;omega
 ·simp only[List.concat_eq_append]at*;have hjl:j-1=i.length:=by rw[hj];simp
  have hg:(i++[l])[j-1]'(by simp;omega)=l:=by simp only[hjl];simp
  rw[mY,hg];split;·rw[hjl];simp
  ·rfl
theorem Dv(w:World)(A1 A2:Option Addr)(c1 c2:Nat)(l1 l2:Rg)(h1:aI w w.heap.size 2 A1 l1.length c1 (rgCells l1))(h2:aI w w.heap.size 2 A2 l2.length c2 (rgCells l2))(ok1:RgOk l1)(ok2:RgOk l2)(hp:0<l2.length)(hl1:l1.length≤100000)(hl2:l2.length≤100000):Calls Tryz.prog 142 #[.slice A1 l1.length c1,.slice A2 l2.length c2] w (CW w l1 l2):=by
 have hb0:Below w.heap.size w (w.alloc (.cells #[.slice A1 l1.length c1,.slice A2 l2.length c2] 151)):=(Below.refl _ _).alloc (Nat.le_refl _) _;have hsz0:(w.alloc (.cells #[.slice A1 l1.length c1,.slice A2 l2.length c2] 151)).heap.size=w.heap.size+1:=by simp
 have xV:=qS (LP (w.alloc (.cells #[.slice A1 l1.length c1,.slice A2 l2.length c2] 151)) w.heap.size A1 A2 c1 c2 l1 l2) (⟨cell_of_row _ w.heap.size 0 _ _ (0,0) (heap_alloc_new w _),cell_of_row _ w.heap.size 1 _ _ (0,0) (heap_alloc_new w _)⟩);have oO:=qH (aI.more (aI.below h1 hb0) hb0.size);have mf:=qH (aI.more (aI.below h2 hb0) hb0.size);have HB0:=qH hb0;have LC:=qS (∀r∈l1++l2,1≤r.1∧r.1<r.2∧r.2≤1099511627777) (fun r hr=>by
  rcases List.mem_append.1 hr with hr|hr;·exact ok1.each r hr
  ·exact ok2.each r hr);obtain⟨i0,hi,hz0,hz1,hz2⟩:=info_parts jO;have HI:=qH hi;have HZ0:=qH hz0;have HZ1:=qH hz1;have HZ2:=qH hz2;clear hi hz0 hz1 hz2 h1 h2 hb0 ok1 ok2;go_enter Tryz.func142,Tryz.ntmps142;go_wp2_with fail;generalize w.alloc (.cells #[.slice A1 l1.length c1,.slice A2 l2.length c2] 151)=w1 at*;with_reducible refine(BB w1 w.heap.size A1 A2 c1 c2 l1 l2 xV.o oO.o mf.o hp (by omega) (by omega)).mono ?_
 rintro r w2⟨g,cp,rfl,ho2,hb2⟩;have hlen2:(l1++l2).length=l1.length+l2.length:=by simp
 have Iz:Hid (∀r∈l1++l2,1≤r.1∧r.1<r.2∧r.2≤1099511627777):=LC.o;have dE:=qS (fu w2 w.heap.size (.slice (some ⟨g,0,none⟩) (l1++l2).length cp) (l1++l2)) (yF ho2 (by omega));have HB2:=qS (Below w.heap.size w w2) (HB0.o.trans (hb2.mono (by omega)));have hgb:w.heap.size≤g:=(World.ownsRow.lt dE.o g rfl).1;clear ho2 hb2 xV oO mf HB0 hsz0;generalize hlists:l1++l2=ll at*;have Di:=qH hlists;clear hlists;have hll:ll.length≤200000:=by omega
 have P5:=qH hlen2;clear hlen2;go_wp2_with fail;with_reducible refine(Dt w2 w.heap.size g cp ll (fun r hr=>by have:=Iz.o r hr;omega) dE.o (by omega)).mono ?_
 rintro r w3⟨rfl,all,hperm,hsort,ho3,hg3⟩;have hlen:all.length=ll.length:=hperm.length_eq;have Dg:=qH hperm;have Pq:=qH hsort;have HLEN:=qH hlen;rw[←hlen]at ho3⊢;have Fv:=qS (zJ w g cp all [] (.slice none 0 0) w3) (⟨World.ownsRow_nil _ _ _ _,ho3,by simp[Value.ownBlock],Below.grown HB2.o hg3 HB2.o.size (fun k hk=>by injection hk with hk;omega)⟩);have hal:all.length≤200000:=by omega
 clear ho3 hg3 hperm hsort dE HB2 hlen;have HST:=qS (tO w g cp all (.slice none 0 0) (.int .i64 ((0:Nat):Int)) w3) (⟨0,rfl,Nat.zero_le _,Fv.o⟩);go_wp2;go_loopw[6,18](fun v i wr=>tO w g cp all v i wr)(fun _ i _=>all.length-(intOf i).toNat);case atStart=>exact HST.o
 case round=>
  obtain⟨k,rfl,hk,hm⟩:=hrel;have HM:=qH hm;have hjl:=Ef (all.take k) [];rw[List.length_take]at hjl;simp only[List.length_nil]at hjl;have qX:=hm.fw.size;clear hm;by_cases hkn:k<all.length
  ·obtain⟨y0,y1,_⟩:=HM.o.all.cell rfl k hkn;have hgl:=(World.ownsRow.lt HM.o.all g rfl).2;have fH:=qS ((all.take (k+1)).foldl dH []=dH ((all.take k).foldl dH []) all[k]) (by rw[List.take_add_one,List.getElem?_eq_getElem hkn,Option.toList_some,AX]);have um:=Iz.o all[k] (Dg.o.mem_iff.1 (List.getElem_mem hkn));generalize all[k]=rr at*;obtain⟨ra,rb⟩:=rr;simp only at y0 y1 um;generalize(all.take k).foldl dH []=out at*;have t1:(k:Int)<all.length:=by omega
   have hbW:Below wr.heap.size wr (wr.alloc (.cells #[.int .i64 ra,.int .i64 rb] 153)):=(Below.refl _ _).alloc (Nat.le_refl _) _;have lH:=qH (HM.o.up hbW);have z0:(wr.alloc (.cells #[.int .i64 ra,.int .i64 rb] 153)).cell? ⟨wr.heap.size,0,none⟩=some (.int .i64 ra):=cell_of_row _ wr.heap.size 0 _ _ (0,0) (heap_alloc_new wr _);have z1:(wr.alloc (.cells #[.int .i64 ra,.int .i64 rb] 153)).cell? ⟨wr.heap.size,1,none⟩=some (.int .i64 rb):=cell_of_row _ wr.heap.size 1 _ _ (0,0) (heap_alloc_new wr _);obtain⟨B,cB,lW⟩:=ownsRow_form HM.o.own;subst lW;have hsa:(wr.alloc (.cells #[.int .i64 ra,.int .i64 rb] 153)).heap.size=wr.heap.size+1:=by simp
   go_upto_region 7 with fail;clear hbW y0 y1;generalize wr.alloc (.cells #[.int .i64 ra,.int .i64 rb] 153)=wa at*;have Pv:=qH hsa;clear hsa;by_cases h0:0<out.length
   ·obtain⟨gg,cg,TV,hgb2,hgg⟩:=World.ownsRow.form lH.o.own h0;obtain⟨rfl,rfl⟩:B=some ⟨gg,0,none⟩∧cB=cg:=by injection TV with h1 _ h3;exact⟨h1,h3⟩
    clear TV;obtain⟨j,hj⟩: ∃j,j=out.length:=⟨_,rfl⟩;have hj0:0<j:=by omega
    have hjo:j-1<out.length:=by omega
    have HJ:=qH (Gn hj hj0 (ra,rb));obtain⟨_,y1,LQ⟩:=lH.o.own.cell rfl (j-1) hjo;have Pp:=qS (∀t,(rgCells out).set ((j-1)*2+1) (.int .i64 t)=rgCells (out.set (j-1) ((out[j-1]'hjo).1,t))) (fun t=>bZ out (j-1) hjo t);generalize out[j-1]'hjo=q at*;obtain⟨qa,qb⟩:=q;simp only at y1 HJ Pp;have Vq:=qH hj;have hjk:j≤200000:=by omega
    rw[←hj];clear hj h0 hjo;have ej:(j:Int)-1=((j-1:Nat):Int):=by omega
    have j1:((j-1:Nat):Int)<j:=by omega
    have wj:IntKind.i64.wrap ((j-1:Nat):Int)=((j-1:Nat):Int):=IntWalk.i64_in _ (by omega);have d0:decide (0<(j:Int))=true:=decide_eq_true (by omega);have d1:(0:Int)<(j:Int):=by omega
    have d0':decide (0<j)=true:=decide_eq_true hj0;by_cases hq:ra≤qb
    ·have hbe:decide (ra≤qb)=true:=decide_eq_true hq;have HT:=qS ((all.take (k+1)).foldl dH []=out.set (j-1) (qa,max qb rb)) (by rw[fH.o,HJ.o,if_pos hq]);clear HJ fH;go_wp2;go_quiet(fail);have Fq:=qH (lH.o.up (below_drewN (Below.refl wa.heap.size wa) nq));have q1:(wa.drewN nq).cell? ⟨wr.heap.size,1,none⟩=some (.int .i64 rb):=z1;have TQ:(wa.drewN nq).cell? ⟨gg,(j-1)*2+1,none⟩=some (.int .i64 qb):=y1;have N7:(wa.drewN nq).frozen? ⟨gg,(j-1)*2+1,none⟩=false:=LQ;clear z0 z1 lH y1 LQ hbe hq d0 d1 d0';generalize wa.drewN nq=wq at*;go_wp2;go_still_tail 14,(by kernel_rfl);change wpList _ _ _ _ _ (wq.drewN 1);have Lr:=qH (Fq.o.up (below_drewN (Below.refl wq.heap.size wq) 1));have Yc:(wq.drewN 1).cell? ⟨gg,(j-1)*2+1,none⟩=some (.int .i64 qb):=TQ;have VS:(wq.drewN 1).frozen? ⟨gg,(j-1)*2+1,none⟩=false:=N7;clear q1 TQ N7 Fq;generalize wq.drewN 1=wz at*;have HR:=qS (tO w g cp all (.slice (some ⟨gg,0,none⟩) j cB) (.int .i64 ((k+1:Nat):Int)) (wz.setCell ⟨gg,(j-1)*2+1,none⟩ (.int .i64 (max qb rb)))) (⟨k+1,rfl,by omega,by rw[HT.o];have hst:=World.ownsRow.stored Lr.o.own ((j-1)*2+1) (.int .i64 (max qb rb));refine Lr.o.app (v':=.slice (some ⟨gg,0,none⟩) j cB) ?_ hst.2 (.inl (by rfl));have h8:=hst.1;rw[Pp.o]at h8;unfold fu;rw[List.length_set];rw[Vq.o]at h8⊢;exact h8⟩);clear ej j1 wj;go_wp2;go_roundw;case rel=>exact HR.o
     case measure=>simp[intOf];omega
    ·have hbe:decide (ra≤qb)=false:=decide_eq_false hq;have HT:=qS ((all.take (k+1)).foldl dH []=out++[(ra,rb)]) (by rw[fH.o,HJ.o,if_neg hq]);clear HJ fH;go_wp2;go_quiet(fail);clear y1 LQ hbe hq d0 d1 d0' ej j1 wj;rw[Vq.o];have hbq:Below wa.heap.size wa (wa.drewN nq):=below_drewN (Below.refl _ _) nq;have Fq:=qH (lH.o.up hbq);have q0:(wa.drewN nq).cell? ⟨wr.heap.size,0,none⟩=some (.int .i64 ra):=z0;have q1:(wa.drewN nq).cell? ⟨wr.heap.size,1,none⟩=some (.int .i64 rb):=z1;clear z0 z1 lH hbq;generalize wa.drewN nq=wq at*;have Oh:=Fq.o.fw.size;go_wp2_with(at_builtin;refine aJ (P:=Tryz.prog) rfl (.tmp 51) (.tmp 53) 151 rfl 153 i0 _ 2 16 Tryz.underlying151 HI.o HZ0.o HZ1.o HZ2.o rfl (by decide) w.heap.size _ out.length (rgCells out) rfl ?c1 (wq.heap.size+1) _ _ _ [.int .i64 ra,.int .i64 rb] rfl ?c2 ?c3 ?c4 ?c5 ?c6 ?_);case c1=>exact World.ownsRow.alloc Fq.o.own _
     case c2=>exact aI.new (size:=2) (n:=1) wq #[.int .i64 ra,.int .i64 rb] _ (by unfold maxLen;omega) rfl
     case c3=>exact bO [(ra,rb)]
     case c4=>unfold maxLen;omega
     case c5=>omega
     case c6=>first|omega|(simp;omega)
     intro v' w5 hown5 hg5 hv5;have HR:=qS (tO w g cp all v' (.int .i64 ((k+1:Nat):Int)) w5) (⟨k+1,rfl,by omega,by rw[HT.o];refine(Fq.o.up ((Below.refl _ _).alloc (Nat.le_refl _) (.cells #[.int .i64 ra,.int .i64 rb] 153))).app ?_ hg5 (by simpa using hv5);unfold fu;rw[aK,List.length_append];exact hown5⟩);clear hown5 hg5 hv5 q0 q1;go_wp2;go_roundw;case rel=>exact HR.o
     case measure=>simp[intOf];omega
   ·have ho0:out=[]:=List.eq_nil_of_length_eq_zero (by omega);have HT:=qS ((all.take (k+1)).foldl dH []=out++[(ra,rb)]) (by rw[fH.o,ho0,pF];rfl);have hol:out.length=0:=by rw[ho0];rfl
    have SE:=qH hol;rw[hol];rw[hol]at lH;clear fH h0 ho0 hol;go_wp2;go_quiet(fail);have hbq:Below wa.heap.size wa (wa.drewN nq):=below_drewN (Below.refl _ _) nq;have Fq:=qH (lH.o.up hbq);have q0:(wa.drewN nq).cell? ⟨wr.heap.size,0,none⟩=some (.int .i64 ra):=z0;have q1:(wa.drewN nq).cell? ⟨wr.heap.size,1,none⟩=some (.int .i64 rb):=z1;clear z0 z1 lH hbq;generalize wa.drewN nq=wq at*;have Oh:=Fq.o.fw.size;go_wp2_with(at_builtin;refine aJ (P:=Tryz.prog) rfl (.tmp 51) (.tmp 53) 151 rfl 153 i0 _ 2 16 Tryz.underlying151 HI.o HZ0.o HZ1.o HZ2.o rfl (by decide) w.heap.size _ out.length (rgCells out) rfl ?c1 (wq.heap.size+1) _ _ _ [.int .i64 ra,.int .i64 rb] rfl ?c2 ?c3 ?c4 ?c5 ?c6 ?_);case c1=>exact World.ownsRow.alloc Fq.o.own _
    case c2=>exact aI.new (size:=2) (n:=1) wq #[.int .i64 ra,.int .i64 rb] _ (by unfold maxLen;omega) rfl
    case c3=>exact bO [(ra,rb)]
    case c4=>unfold maxLen;omega
    case c5=>omega
    case c6=>first|omega|(simp;omega)
    intro v' w5 hown5 hg5 hv5;have HR:=qS (tO w g cp all v' (.int .i64 ((k+1:Nat):Int)) w5) (⟨k+1,rfl,by omega,by rw[HT.o];refine(Fq.o.up ((Below.refl _ _).alloc (Nat.le_refl _) (.cells #[.int .i64 ra,.int .i64 rb] 153))).app ?_ hg5 (by simpa using hv5);unfold fu;rw[aK,List.length_append];exact hown5⟩);clear hown5 hg5 hv5 q0 q1;go_wp2;go_roundw;case rel=>exact HR.o
    case measure=>simp[intOf];omega
  ·have t1: ¬(k:Int)<all.length:=by omega
   have HKK:=qS (all.take k=all) (List.take_of_length_le (by omega));rw[HKK.o]at HM hjl;have HJ:=qH (za all Pq.o (fun r hr=>Iz.o r (Dg.o.mem_iff.1 hr)) [] RgOk.nil (fun q hq=>by simp at hq));obtain⟨B,cB,lW⟩:=ownsRow_form HM.o.own;subst lW;have HF:=qS (CW w l1 l2 (.returned (.slice B (all.foldl dH []).length cB)) wr) (⟨_,_,rfl,HM.o.own,HJ.o.1,fun n=>by have h0:bS ([]:Rg) n=false:=rfl;rw[HJ.o.2,h0,Bool.false_or,←gF,Di.o];unfold bS;rw[Bool.eq_iff_iff,List.any_eq_true,List.any_eq_true];constructor<;>(rintro⟨q,hq,h⟩;exact⟨q,by first|exact Dg.o.mem_iff.1 hq|exact Dg.o.mem_iff.2 hq,h⟩),by have:=HLEN.o;have:=P5.o;omega,HM.o.fw⟩);go_wp2;go_ret;exact HF.o
theorem lF.kept{w w':World}{b r:Nat}{m:Row Value}{todo:List UInt8→Bool}{cnt x:Nat}(h:lF w b r m todo cnt)(hg:w.grownBy w' (some x))(hb:b≠x)(hr:r≠x):lF w' b r m todo cnt:=by obtain⟨n,left,h1,h2⟩:=h;exact⟨n,left,h1.kept (row:=some x) hg (by simpa using hb) (by simpa using hr),h2⟩
theorem aX.grown{w w':World}{G:Nat→Prop}{bs bm x:Nat}{m:dV}{V:List UInt8→Value}(h:aX w G bs bm m V)(hg:w.grownBy w' (some x))(hx: ¬G x):aX w' G bs bm m V:=h.keep hg.size fun b hb=>hg.block b (h.lt b hb) (fun e=>by injection e with e;exact hx (e▸hb))
structure WL(w:World)(G G':Nat→Prop)(bs bm bo bp r:Nat)(m m':dV)(V':List UInt8→Value)(todo:List UInt8→Bool)(cnt:Nat)(G2:Nat→Prop)(m2:dV)(V2:List UInt8→Value)(wr:World):Prop where
 TS:lF wr bp r (m'.map fun p=>(p.1,V' p.1)) todo cnt
 dst:aX wr G2 bs bm m2 V2
 src:aX wr G' bo bp m' V'
 has: ∀s n,hadB m2 s n=(hadB m s n||(!todo s&&hadB m' s n))
 rows: ∀s,todo s=true→aC m2 s=aC m s
 len:m2.length+cnt≤m.length+m'.length
 keep:ai G w wr
 new: ∀b,G2 b→G b∨w.heap.size<b
def Ij(w:World)(G G':Nat→Prop)(bs bm bo bp r:Nat)(m m':dV)(V':List UInt8→Value)(wr:World):Prop:= ∃todo cnt G2 m2 V2,WL w G G' bs bm bo bp r m m' V' todo cnt G2 m2 V2 wr
def vU(w:World)(G:Nat→Prop)(bs bm:Nat)(m m':dV)(e:Ending)(w':World):Prop:=e=.returned (.tuple #[])∧ ∃G2 m2 V2,aX w' G2 bs bm m2 V2∧(∀s n,hadB m2 s n=(hadB m s n||hadB m' s n))∧ai G w w'∧ ∀b,G2 b→G b∨w.heap.size≤b
theorem cZ.CP{w:World}{v:Value}{rs:Rg}(h:cZ w v rs): ∃A c,v=.slice A rs.length c∧aI w w.heap.size 2 A rs.length c (rgCells rs):=by obtain⟨A,c,hv⟩:=ownsRow_form h;subst hv;exact⟨A,c,rfl,aI.bz h⟩
theorem Ex{m:dV}{V:List UInt8→Value}{k:List UInt8}{v:Value}(h:aA (m.map fun p=>(p.1,V p.1)) k=some v): ∃rs,aA m k=some rs∧v=V k:=by unfold aA at*;rw[List.find?_map]at h;have e:((fun p:List UInt8×Value=>p.1==k)∘fun p:List UInt8×Rg=>(p.1,V p.1))=fun p=>p.1==k:=rfl;rw[e]at h;cases hf:m.find? fun p=>p.1==k with|none=>rw[hf]at h;cases h|some p=>have h1:=List.find?_some hf;simp at h1;rw[hf]at h;simp at h;exact⟨p.2,rfl,by rw[←h,h1]⟩
theorem Eb(w:World)(G G':Nat→Prop)(bs bm bo bp:Nat)(m m':dV)(V V':List UInt8→Value)(h:aX w G bs bm m V)(h':aX w G' bo bp m' V')(hap: ∀b,G b→ ¬G' b)(hl:m.length+m'.length≤200000)(hr: ∀s,(aC m s).length≤100000)(hr': ∀p∈m',p.2.length≤100000):Calls Tryz.prog 90 #[.pointer (some ⟨bs,0,none⟩),.pointer (some ⟨bo,0,none⟩)] w (vU w G bs bm m m'):=by
 have HH:=qH h;have NT:=qH h';have vZ:=qH hap;have HR:=qH hr;have Xm:=qH hr';have hne:bs≠bo:=fun e=>hap bs h.gs (e▸h'.gs);have hcmp:(binOp .eql 75 (.pointer (some ⟨bs,0,none⟩)) (.pointer (some ⟨bo,0,none⟩))).run Tryz.prog w=.ok (.bool false) w:=by
  obtain⟨j,hj1,hj2⟩: ∃j,Tryz.prog.info? 150=some j∧j.size=1:=by
   have:(Tryz.prog.info? 150).map (·.size)=some 1:=by kernel_rfl
   cases hi:Tryz.prog.info? 150 with|none=>rw[hi]at this;cases this|some j=>rw[hi]at this;exact⟨j,rfl,by simpa using this⟩
  exact run_eql_ptr_other w Tryz.underlying75 hj1 (by omega) (fun e=>hne (by injection e)) h.blk h'.blk
 have c0:=h'.cell;have XD:=qH h'.map;have Ux:=h.lt;have OU:=h'.lt;have Fx:=qH Ux;have Tj:=qH OU;have X3:=qH h'.gm;have TG:=qH h.gm;clear h h' hap hr hr' Ux OU;go_enter Tryz.func90,Tryz.ntmps90;go_wp2_with(at_range;refine kE _ rfl _ 148 151 rfl Tryz.underlying148 bp (m'.map fun p=>(p.1,V' p.1)) rfl XD.o ?_;intro w0 hrg0 hg0 hs0);go_frame;clear c0 hcmp;have hb0:Below w.heap.size w w0:=⟨hg0.os,hg0.tape,hg0.output,hg0.size,fun k hk=>hg0.block k hk (by simp)⟩;have HST:=qS (Ij w G G' bs bm bo bp w.heap.size m m' V' w0) (⟨_,_,G,m,V,hrg0,HH.o.up hb0,NT.o.up hb0,fun s n=>by
  rw[show(aA (m'.map fun p=>(p.1,V' p.1)) s).isSome=(aA m' s).isSome from ?_];·cases hg:aA m' s with|none=>simp[hadB,aC,hg,bS]|some rs=>simp
  ·unfold aA;rw[List.find?_map];have e:((fun p:List UInt8×Value=>p.1==s)∘fun p:List UInt8×Rg=>(p.1,V' p.1))=fun p=>p.1==s:=rfl;rw[e];cases m'.find? fun p=>p.1==s<;>rfl,fun s _=>rfl,by simp,ai.of_below hb0,fun b hb=>.inl hb⟩);clear hg0 hrg0 hb0;go_loopw[](fun wr=>Ij w G G' bs bm bo bp w.heap.size m m' V' wr)(fun wr=>wr.rangeLeft bp w.heap.size);case atStart=>exact HST.o
 case round=>
  obtain⟨todo,cnt,G2,m2,V2,hM⟩:=hrel;have HM:=qH hM;clear hM;go_wp2_with(at_next;refine mi _ rfl _ rfl bp w.heap.size (m'.map fun p=>(p.1,V' p.1)) todo cnt rfl HM.o.TS ?_ ?_);·intro hdone;have HF:=qS (vU w G bs bm m m' (.returned (.tuple #[])) wr) (⟨rfl,G2,m2,V2,HM.o.dst,fun s n=>by rw[HM.o.has,hdone s];simp,HM.o.keep,fun b hb=>(HM.o.new b hb).imp id (fun h=>by omega)⟩);clear hdone;go_wp2;go_end0;exact HF.o
  ·intro k v w1 cnt1 htk hget hkl hrg1 hlt1 hgr hsz1 hen;obtain⟨rs,QD,rfl⟩:=Ex hget;have Mq: ∀b,G2 b→b≠w.heap.size:=fun b hb e=>by
    rcases HM.o.new b hb with h1|h1;·have:=Fx.o b h1;omega
    ·omega
   have V5:=HM.o.keep.size;have D1:=(HM.o.dst.grown hgr (fun hx=>Mq _ hx rfl)).up (w':=w1.drew) (Below.refl _ _).drew;have S1:=(HM.o.src.grown hgr (fun hx=>by have:=Tj.o _ hx;omega)).up (w':=w1.drew) (Below.refl _ _).drew;have K1:ai G w w1:=HM.o.keep.trans (ai.dW (F:=fun b=>b=w.heap.size) hgr (fun k e=>by injection e with e;exact e.symm)) (fun b hb e=>by omega);have hmem:=ah QD;have hpo:=NT.o.ok.each _ hmem;have hpl:=Xm.o _ hmem;simp only at hpo hpl;have hk24:k.length≤24:=by have:=hpo.1;unfold ae at this;simp at this;omega
   obtain⟨va,hlk,hoa,hv0,hv1⟩:=D1.look k (by omega);have Re:=HM.o.rows k htk;have hl1:=HR.o k;rw[Re]at hoa;have hok1:=HH.o.ok.row k;have Ol:=S1.own _ hmem;simp only at Ol;obtain⟨A1,c1,hva,pJ⟩:=hoa.CP;obtain⟨A2,c2,hvb,hC2⟩:=Ol.CP;have hrs0:0<rs.length:=List.length_pos_iff.2 hpo.2.2;have HU:=qH (Dv w1.drew A1 A2 c1 c2 (aC m k) rs pJ hC2 hok1 hpo.2.1 hrs0 hl1 hpl);have HD1:=qH D1;have uq:=qH S1;have EX:=qH K1;have xC:=qH hv0;have tV:=qH hv1;have Qe:=qH Re;have I5:=qH hpo;have fH:=qH htk;have mD:=qH hrg1;have tY:=qH hlt1;have Tk:=qH QD;have hlen2:m2.length<maxLen:=by have:=HM.o.len;unfold maxLen;omega
   have c0:w1.cell? ⟨bs,0,none⟩=some (.map (some bm)):=D1.cell;have Sq:=qH hsz1;have Yp:=qH Mq;have ma:=qS (∀w5 v5 rs5,Below w1.drew.heap.size w1.drew w5→fu w5 w1.drew.heap.size v5 rs5→RgOk rs5→(∀n,bS rs5 n=(bS (aC m k) n||bS rs n))→ ∃w6,(Instr.mapUpdate 148 (.map (some bm)) (.string ⟨k.toArray⟩) v5).run Tryz.prog w5=.ok () w6∧w5.cell? ⟨bs,0,none⟩=some (.map (some bm))∧w6.cell? ⟨bs,0,none⟩=some (.map (some bm))∧Ij w G G' bs bm bo bp w.heap.size m m' V' w6∧w6.rangeLeft bp w.heap.size<wr.rangeLeft bp w.heap.size) (fun w5 v5 rs5 hb5 ho5 hok5 hhas5=>by
    have D5:=D1.up hb5;have hne5:rs5≠[]:=fun e=>by obtain⟨n,hn⟩:=Jn hpo.2.1 hpo.2.2;have:=hhas5 n;rw[e,hn]at this;simp[bS]at this
    obtain⟨g5,cp5,hv5,Rn,Ws⟩:=World.ownsRow.form ho5 (List.length_pos_iff.2 hne5);obtain⟨w6,hr6,hm6,hg6⟩:=D5.map.put (by simpa using hlen2) k (by unfold maxLen;omega) _ _ Tryz.underlying148 v5;have hok6:bV (aR k rs5 m2):=⟨aY HM.o.dst.ok.up _ _,fun p hp=>by
     rcases aF.1 hp with rfl|⟨hp,_⟩;·exact⟨hpo.1,hok5,hne5⟩
     ·exact HM.o.dst.ok.each p hp⟩;have hst:=D1.stored (w2:=w5) (w3:=w6) k va v5 rs5 hv0 hv1 ⟨hb5.os,hb5.tape,hb5.output,hb5.size,fun i hi _=>hb5.block i hi⟩ (yF ho5 (Nat.zero_le _)) (.inr ⟨g5,by rw[hv5];rfl,Rn⟩) (by rw[hv5];simp[Value.ownBlock]) hm6 hg6 hok6;have V3:w.heap.size<w1.heap.size:=by have:=(lF.lt hrg1);omega
    have Rt:bp≠bm:=fun e=>vZ.o bm TG.o (e▸X3.o);have hrm:w.heap.size≠bm:=fun e=>by have:=Fx.o bm TG.o;omega
    have R6:=((hrg1.up (w':=w1.drew) (Below.refl _ _).drew).up hb5).kept hg6 Rt hrm;refine⟨w6,hr6,D5.cell,hst.1.cell,⟨_,cnt1,_,aR k rs5 m2,_,R6,hst.1,(S1.up hb5).grown hg6 (fun hx=>vZ.o bm TG.o hx),fun s n=>?_,fun s hs=>?_,?_,?_,fun b hb=>?_⟩,?_⟩
    ·have h1:=HM.o.has s n;by_cases e:s=k
     ·subst e;have h2:hadB (aR s rs5 m2) s n=bS rs5 n:=by unfold hadB;rw[gM]
      have h3:hadB m' s n=bS rs n:=by unfold hadB aC;rw[QD];rfl
      rw[h2,hhas5,h3];simp[hadB]
     ·have h2:hadB (aR k rs5 m2) s n=hadB m2 s n:=by unfold hadB;rw[eG _ _ e]
      have h3:(s==k)=false:=by simpa using e
      rw[h2,h1];simp only[h3,Bool.not_false,Bool.and_true]
    ·simp only[Bool.and_eq_true,Bool.not_eq_true',beq_eq_false_iff_ne]at hs;rw[eG _ _ hs.2];exact HM.o.rows s hs.1
    ·have:=df m2 k rs5;have:=HM.o.len;omega
    ·refine(K1.drewN 1).trans (G:=G2) (show ai G2 (w1.drewN 1) w6 from hst.2) (fun b hb hG2=>?_);rcases HM.o.new b hG2 with h1|h1;·exact h1
     ·omega
    ·rcases hb with⟨hb,_⟩|⟨hb,_⟩;·exact HM.o.new b hb
     ·right;have:w1.heap.size≤b:=hb;omega
    ·rw[R6.left_eq,HM.o.TS.left_eq];exact hlt1);subst hva;rw[hvb]at hen;rw[hvb];clear hoa Ol pJ hC2 hvb D1 S1 K1 hv0 hv1 Re hpo htk hrg1 hlt1 QD hmem hget hgr hsz1 Mq hok1;go_wp2;go_region_held3(fun wx=>wx.cell? ⟨bs,0,none⟩=some (.map (some bm)))(first|assumption|go_keep)(first|(go_at_call 142;(with_reducible refine HU.o.mono ?_);rintro r9 w5⟨v5,rs5,rfl,ho5,hok5,hhas5,_,hb5⟩;obtain⟨w6,hr6,hc5,hc6,hrel6,hme6⟩:=ma.o w5 v5 rs5 hb5 ho5 hok5 hhas5;have gI:=qH hrel6;have QQ:=qH hme6;clear ho5 hok5 hhas5 hb5 hrel6 hme6));all_goals
    clear hlk hen hr6 hc5 c0;go_wp2;go_roundw;case rel=>exact gI.o
    case measure=>exact QQ.o
def rf(w:World)(m:dV)(e:Ending)(w':World):Prop:= ∃bs bm G V,e=.returned (.pointer (some ⟨bs,0,none⟩))∧aX w' G bs bm m V∧Below w.heap.size w w'∧ ∀b,G b→w.heap.size≤b
theorem Ar{m:dV}(h:bV m){p:List UInt8×Rg}(hp:p∈m):aC m p.1=p.2:=by unfold aC;rw[dY h.up (v:=p.2) hp];rfl
theorem zg(w:World)(F:Nat→Prop)(bi N:Nat)(x:az)(h:aS w F bi N x)(hN:N≤90000):Calls Tryz.prog 47 #[.pointer (some ⟨bi,0,none⟩)] w (rf w x.had):=by
 obtain⟨A,hM,hO,_,_,_,_⟩:=h;have HM:=qH hM;have Wp:=hO.had;have HRW:=qH hO.rows;clear hM hO;go_enter Tryz.func47,Tryz.ntmps47;go_wp2_with fail;refine(mZ w).mono ?_;rintro r w1⟨bs,bm,rfl,hd1,hbs,Ru,hb1⟩;have HD1:=qH hd1;have HB1:=qH hb1;have lH:=qH (HM.o.up hb1);obtain⟨c0,c1,c2,c3,c4,c5,f2,f3,f4⟩:=lH.o.cells;have Fx:=qS (∀b,A.G b→b<w.heap.size) (fun b hb=>HM.o.had.lt b hb);clear hd1 hb1;go_wp2_with fail;with_reducible refine(Eb w1 (fun b=>b=bs∨b=bm) A.G bs bm A.bs A.bh [] x.had (fun _=>.slice none 0 0) A.V HD1.o lH.o.had (fun b hb hg=>by have:=Fx.o b hg;rcases hb with rfl|rfl<;>omega) (by simp;omega) (fun s=>by simp[aC,aA]) (fun p hp=>by have:=HRW.o p.1;rw[Ar HM.o.had.ok hp]at this;omega)).mono ?_
 rintro r w2⟨rfl,G2,m2,V2,hd2,hhas,hk2,hG2⟩;have hm2:m2=x.had:=Bn hd2.ok HM.o.had.ok (fun s n=>by rw[hhas];simp[hadB,aC,aA,bS]);subst hm2;have HF:=qS (rf w x.had (.returned (.pointer (some ⟨bs,0,none⟩))) w2) (⟨bs,bm,G2,V2,rfl,hd2,HB1.o.trans (hk2.below HB1.o.size (fun k hk hF=>by rcases hF with rfl|rfl<;>omega)),fun b hb=>by
  have:=HB1.o.size;rcases hG2 b hb with(rfl|rfl)|h';·exact hbs
  ·exact Ru
  ·omega⟩);clear hd2 hhas hk2 hG2 c0 c1 c2 c3 c4 c5 f2 f3 f4;go_wp2;go_ret;exact HF.o
def vP(w:World)(N:Nat)(x:az)(e:Ending)(w':World):Prop:= ∃bi F,e=.returned (.pointer (some ⟨bi,0,none⟩))∧aS w' F bi N x∧RowKit.Below w.heap.size w w'∧ ∀b,F b→w.heap.size≤b
theorem gU(w:World)(G F R:Nat→Prop)(br bj bd bi N:Nat)(j:Jl)(x:az)(off:Nat)(h:dD w G F R br bj bd bi N j x off)(hx:bL N x)(hN:N≤600)(hmx:aM w)(he:eQ w)(ht:Lib.TabBelow Tryz.prog w.heap.size w "internal/strconv.uint64pow10" .u64 Lib.pow10Tab):Calls Tryz.prog 21 #[.pointer (some ⟨br,0,none⟩)] w (vP w N x):=by
 obtain⟨c0,c1,c2⟩:=h.cells;have HI:=qH h.it;have HX:=qH hx;have dO:=qH hmx;have HE:=qH he;have HT:=qH ht;clear h hx hmx he ht;go_enter Tryz.func21,Tryz.ntmps21;go_wp2_with fail;with_reducible refine(D8 w R bi N x HI.o (by omega) dO.o HT.o).mono ?_
 rintro r w1⟨vc,vh,vt,vl,vg,rr,rfl,hV,hb1⟩;have HV:=qH hV;have HB1:=qH hb1;clear hV hb1;go_wp2_with fail;with_reducible refine(Hu HX.o hN HV.o (dO.o.up HB1.o) (HE.o.up HB1.o) (iw HT.o HB1.o)).mono ?_
 rintro r w2⟨b2,F2,rfl,h2,hb2,hF2⟩;have HR:=qS (vP w N x (.returned (.pointer (some ⟨b2,0,none⟩))) w2) (⟨b2,F2,rfl,h2,HB1.o.trans (hb2.mono HB1.o.size),fun b hb=>Nat.le_trans HB1.o.size (hF2 b hb)⟩);clear h2 hb2 hF2;go_wp2;go_ret;exact HR.o
theorem mM(w:World)(F1 F2:Nat→Prop)(b1 b2 N:Nat)(x:az)(h1:aS w F1 b1 N x)(h2:aS w F2 b2 N x)(hx:bL N x)(hN:N≤600):Calls Tryz.prog 22 #[.pointer (some ⟨b1,0,none⟩),.pointer (some ⟨b2,0,none⟩)] w (Says true w):=by have MS:=qS (∀W,RowKit.Below w.heap.size w W→Calls Tryz.prog 14 #[.pointer (some ⟨b1,0,none⟩)] W (gP W x.taken)) (fun W hW=>iE W F1 b1 N x (h1.up hW) (by omega));have Ki:=qS (∀W,RowKit.Below w.heap.size w W→Calls Tryz.prog 14 #[.pointer (some ⟨b2,0,none⟩)] W (gP W x.taken)) (fun W hW=>iE W F2 b2 N x (h2.up hW) (by omega));have XY:=qS (∀W,RowKit.Below w.heap.size w W→Calls Tryz.prog 16 #[.pointer (some ⟨b1,0,none⟩)] W (oQ W x.gone)) (fun W hW=>jD W F1 b1 N x (h1.up hW) (by omega));have XX:=qS (∀W,RowKit.Below w.heap.size w W→Calls Tryz.prog 16 #[.pointer (some ⟨b2,0,none⟩)] W (oQ W x.gone)) (fun W hW=>jD W F2 b2 N x (h2.up hW) (by omega));have XQ:=qS (∀W,RowKit.Below w.heap.size w W→Calls Tryz.prog 47 #[.pointer (some ⟨b1,0,none⟩)] W (rf W x.had)) (fun W hW=>zg W F1 b1 N x (h1.up hW) (by omega));have Qe:=qS (∀W,RowKit.Below w.heap.size w W→Calls Tryz.prog 47 #[.pointer (some ⟨b2,0,none⟩)] W (rf W x.had)) (fun W hW=>zg W F2 b2 N x (h2.up hW) (by omega));have zR:=qS (∀p∈x.had,p.2.length≤90000) (fun p hp=>Nat.le_trans (hx.ok.sM hx.yE.ok p hp) (by omega));have htk:=hx.ok.taken;have hhd:=hx.ok.had;have hgn:=hx.gone;have aZ:=qS (RowKit.Below w.heap.size w w.drew) (below_drewN (Below.refl _ _) 1);clear h1 h2 hx;go_enter Tryz.func22,Tryz.ntmps22;go_wp2;go_region_law(first|(go_simp;(go_at_call 14;first|((with_reducible refine(MS.o _ aZ.o).mono ?_);rintro r wx⟨v1,rfl,o1,hb⟩;obtain⟨A1,k1,rfl⟩:=ownsRow_form o1;have T1:=qS (eD wx wx.heap.size A1 x.taken.length k1 x.taken) (aI.bz o1);clear o1;have fJ:=qH (aZ.o.trans (hb.mono aZ.o.size));clear aZ;have aZ:=fJ;clear fJ;clear hb)|((with_reducible refine(Ki.o _ aZ.o).mono ?_);rintro r wx⟨v2,rfl,o2,hb⟩;obtain⟨A2,k2,rfl⟩:=ownsRow_form o2;have T2:=qS (eD wx wx.heap.size A2 x.taken.length k2 x.taken) (aI.bz o2);clear o2;have UR:=qS (eD wx wx.heap.size A1 x.taken.length k1 x.taken) (aI.more (aI.below T1.out hb) hb.size);clear T1;have T1:=UR;clear UR;have fJ:=qH (aZ.o.trans (hb.mono aZ.o.size));clear aZ;have aZ:=fJ;clear fJ;clear hb)))|(go_simp;(go_at_call 13;(with_reducible refine(mK _ _ _ A1 A2 _ k1 k2 x.taken T1.out T2.out (by omega)).mono ?_);rintro r wx⟨rfl,q,rfl⟩;clear T1 T2;have fJ:=qH (below_drewN aZ.o q);clear aZ;have aZ:=fJ;clear fJ))|(go_simp;(go_at_call 16;first|((with_reducible refine(XY.o _ aZ.o).mono ?_);rintro r wx⟨v3,r1,rfl,hr1,o1,hb⟩;obtain⟨A3,k3,rfl⟩:=ownsRow_form o1;have G1:=qS (Strs wx wx.heap.size A3 r1.length k3 r1) (aI.bz o1);have HR1:=qH hr1;have hrl:=qm hr1;clear o1 hr1;have fJ:=qH (aZ.o.trans (hb.mono aZ.o.size));clear aZ;have aZ:=fJ;clear fJ;clear hb)|((with_reducible refine(XX.o _ aZ.o).mono ?_);rintro r wx⟨v4,r2,rfl,hr2,o2,hb⟩;obtain rfl:=eT hr2 HR1.o;obtain⟨A4,k4,rfl⟩:=ownsRow_form o2;have G2:=qS (Strs wx wx.heap.size A4 r2.length k4 r2) (aI.bz o2);clear o2 hr2;have VL:=qS (Strs wx wx.heap.size A3 r2.length k3 r2) (aI.more (aI.below G1.out hb) hb.size);clear G1;have G1:=VL;clear VL;have fJ:=qH (aZ.o.trans (hb.mono aZ.o.size));clear aZ;have aZ:=fJ;clear fJ;clear hb)))|(go_simp;(go_at_call 15;(with_reducible refine(uR _ _ _ A3 A4 _ k3 k4 r2 G1.out G2.out (by omega)).mono ?_);rintro r wx⟨rfl,q,rfl⟩;clear G1 G2;have fJ:=qH (below_drewN aZ.o q);clear aZ;have aZ:=fJ;clear fJ))|(go_simp;(go_at_call 47;first|((with_reducible refine(XQ.o _ aZ.o).mono ?_);rintro r wx⟨bs1,bm1,X9,WJ,rfl,hh1,hb,_⟩;have HD1:=qH hh1;clear hh1;have fJ:=qH (aZ.o.trans (hb.mono aZ.o.size));clear aZ;have aZ:=fJ;clear fJ;clear hb)|((with_reducible refine(Qe.o _ aZ.o).mono ?_);rintro r wx⟨bs2,bm2,X8,WI,rfl,hh2,hb,_⟩;have HD2:=qH hh2;clear hh2;have Qt:=qH ((dP.below E1.out hb).more hb.size);clear E1;have E1:=Qt;clear Qt;have fJ:=qH (aZ.o.trans (hb.mono aZ.o.size));clear aZ;have aZ:=fJ;clear fJ;clear hb;(first|(clear hcv1;have hcv1:=E1.out.str (P:=Tryz.prog) 93 5 9 Tryz.underlying93 Tryz.underlying5 Tryz.underlying9)|skip))))|(go_simp;(go_at_call 48;first|((with_reducible refine(nz _ X9 bs1 bm1 x.had WJ HD1.o (by omega) zR.o).mono ?_);rintro r wx⟨v5,rfl,o1,hb⟩;obtain⟨A5,k5,rfl⟩:=o1.form;have E1:=qH o1.J4;clear o1 HD1;have fJ:=qH (aZ.o.trans (hb.mono aZ.o.size));clear aZ;have aZ:=fJ;clear fJ;clear hb;have hcv1:=E1.out.str (P:=Tryz.prog) 93 5 9 Tryz.underlying93 Tryz.underlying5 Tryz.underlying9)|((with_reducible refine(nz _ X8 bs2 bm2 x.had WI HD2.o (by omega) zR.o).mono ?_);rintro r wx⟨v6,rfl,o2,hb⟩;obtain⟨A6,k6,rfl⟩:=o2.form;have E2:=qH o2.J4;clear o2 HD2;have Qt:=qH ((dP.below E1.out hb).more hb.size);clear E1;have E1:=Qt;clear Qt;have fJ:=qH (aZ.o.trans (hb.mono aZ.o.size));clear aZ;have aZ:=fJ;clear fJ;clear hb;(first|(clear hcv1;have hcv1:=E1.out.str (P:=Tryz.prog) 93 5 9 Tryz.underlying93 Tryz.underlying5 Tryz.underlying9)|skip);have hcv2:=E2.out.str (P:=Tryz.prog) 93 5 9 Tryz.underlying93 Tryz.underlying5 Tryz.underlying9))));all_goals go_wp2;go_ret;exact⟨rfl,aZ.o⟩
end Go.Proofs.YtladegonienapaaGreatDoor
