/-
  Layer 48: Same, of any two intakes.
-/
import Derived.Test.YtcmmclliabhnjaaGreatDoorWTwPl
import Derived.Test.YtcmmclliabhnjaaGreatDoorWGrPlain
import Derived.Test.YtcmmclliabhnjaaGreatDoorWSets
import Derived.Laws.StructEq
import Derived.Test.YtcmmclliabhnjaaGreatDoorWTwCc
import Derived.Test.YtcmmclliabhnjaaGreatDoorWParts
set_option maxRecDepth 100000
set_option maxHeartbeats 16000000
namespace Go.Proofs.YtcmmclliabhnjaaGreatDoor
open Go.RowKit Go.Maps Go.Sort
theorem stays_mono{g g':List (List UInt8)}{e:Ev}(h: ∀p∈g,p∈g')(hs:staysB g' e=true):staysB g e=true:=by unfold staysB at*;simp only[Bool.or_eq_true,Bool.not_eq_true',decide_eq_false_iff_not]at*;exact hs.imp (fun hn hg=>hn (h _ hg)) id
theorem stays_congr{g g':List (List UInt8)}(e:Ev)(h: ∀p,p∈g↔p∈g'):staysB g e=staysB g' e:=by rw[Bool.eq_iff_iff];exact⟨stays_mono fun p hp=>(h p).2 hp,stays_mono fun p hp=>(h p).1 hp⟩
structure SameI(x y:Itk):Prop where
 taken:x.taken=y.taken
 gone: ∀p,p∈x.gone↔p∈y.gone
 had:x.had=y.had
theorem SameI.of{x y:Itk}(sx:SortedE x.taken)(sy:SortedE y.taken)(ix:(x.taken.map idOf).Nodup)(iy:(y.taken.map idOf).Nodup)(hx:HadOk x.had)(hy:HadOk y.had)(ht: ∀e,e∈x.taken↔e∈y.taken)(hg: ∀p,p∈x.gone↔p∈y.gone)(hh: ∀s n,hadB x.had s n=hadB y.had s n):SameI x y:=⟨sorted_unique sx sy ix iy ht,hg,had_unique hx hy hh⟩
section
variable{bt:Ev→Ev→Bool}{a b c ab ba bc aa l r lb:Itk}{L:List Ev}
theorem MgI.alike(h:MgI bt a b c)(hA:AlikeP L)(ha: ∀e∈a.taken,e∈L)(hb: ∀e∈b.taken,e∈L)(e:Ev):e∈c.taken↔(e∈a.taken∨e∈b.taken)∧staysB c.gone e=true:=by
 have hal:AlikeP (a.taken++b.taken):=fun x hx y hy h1 h2=>by have k: ∀z,z∈a.taken++b.taken→z∈L:=fun z hz=>(List.mem_append.1 hz).elim (ha z) (hb z);exact hA x (k x hx) y (k y hy) h1 h2
 rw[h.tpe.mem_iff];unfold mgT;rw[List.mem_filter,onceE_alike hal,List.mem_append]
theorem MgI.inL(h:MgI bt a b c)(ha: ∀e∈a.taken,e∈L)(hb: ∀e∈b.taken,e∈L): ∀e∈c.taken,e∈L:=fun e he=>(h.tmem he).1.elim (ha e) (hb e)
theorem tw_comm(h1:MgI bt a b ab)(h2:MgI bt b a ba)(hA:AlikeP L)(ha: ∀e∈a.taken,e∈L)(hb: ∀e∈b.taken,e∈L):SameI ab ba:=by
 have hg: ∀p,p∈ab.gone↔p∈ba.gone:=fun p=>by rw[h1.gone,h2.gone,List.mem_append,List.mem_append];exact Or.comm
 refine SameI.of h1.tso h2.tso h1.tids h2.tids h1.hok h2.hok (fun e=>?_) hg (fun s n=>by rw[h1.had,h2.had,Bool.or_comm]);rw[h1.alike hA ha hb,h2.alike hA hb ha,stays_congr e hg];exact and_congr_left fun _=>Or.comm
theorem tw_again(h:MgI bt a b c)(pa:PlayInv a)(hA:AlikeP L)(ha: ∀e∈a.taken,e∈L)(hb: ∀e∈b.taken,e∈L)(ht: ∀e∈b.taken,staysB a.gone e=true→e∈a.taken)(hg: ∀p∈b.gone,p∈a.gone)(hh: ∀s n,hadB b.had s n=true→hadB a.had s n=true):SameI c a:=by
 have hg': ∀p,p∈c.gone↔p∈a.gone:=fun p=>by rw[h.gone,List.mem_append];exact⟨fun h=>h.elim id (hg p),.inl⟩
 refine SameI.of h.tso pa.sorted h.tids pa.ids h.hok pa.ok (fun e=>?_) hg' (fun s n=>?_)
 ·rw[h.alike hA ha hb,stays_congr e hg'];constructor
  ·rintro⟨h1|h1,hs⟩;·exact h1
   ·exact ht e h1 hs
  ·intro h1;refine⟨.inl h1,?_⟩;unfold staysB;by_cases hp:e.per∈a.gone;·simp[pa.inv.stay e (.inl h1) hp]
   ·simp[hp]
 ·rw[h.had];cases hb':hadB b.had s n;·rw[Bool.or_false]
  ·rw[hh s n hb'];rfl
theorem tw_missing(h:MgI bt a b c)(pa:PlayInv a)(pb:PlayInv b):(∀e∈a.taken,hadB c.had e.src e.num=true)∧ ∀e∈b.taken,hadB c.had e.src e.num=true:=⟨fun e he=>by rw[h.had,pa.kept e he];rfl,fun e he=>by rw[h.had,pb.kept e he,Bool.or_true]⟩
end
theorem take_eq_step{α:Type}{l l':List α}{k:Nat}(h:l.take k=l'.take k)(hk:k<l.length)(hk':k<l'.length)(he:l[k]=l'[k]):l.take (k+1)=l'.take (k+1):=by rw[List.take_add_one,List.take_add_one,List.getElem?_eq_getElem hk,List.getElem?_eq_getElem hk',h,he]
theorem ev_neq(x y:Ev)(h:x≠y)(W:World):(binOp .neq 74 x.agg y.agg).run Tryz.prog W=.ok (.bool true) W:=by
 have u3:=Tryz.underlying3;have u9:=Tryz.underlying9;have hS:Tryz.prog.underlying 74=some (.struct (Tryz.prog.fieldsOf 74)):=by kernel_rfl
 have hp:Tryz.prog.stoodInHeld 74=false:=by kernel_rfl
 have hE:(Op.equalIn 10000 74 x.agg y.agg).run Tryz.prog W=.ok false W:=by unfold Ev.agg;rw[show(10000:Nat)=9999+1 from rfl,run_equalIn_agg W 9999 74 _ _ hS hp];simp only[Program.fieldsOf,Tryz.underlying74];go_simp;intro a b c d e f g i;exact h (by cases x;cases y;simp_all)
 unfold Ev.agg at hE⊢;rw[run_neq_struct,hE];rfl
theorem eqev_g(w:World)(B B':Nat)(A A':Option Addr)(n n' c c':Nat)(es es':List Ev)(h:Evs w B A n c es)(h':Evs w B' A' n' c' es')(hn:n≤100000)(hn':n'≤100000):Calls Tryz.prog 55 #[.slice A n c,.slice A' n' c'] w fun e w'=>e=.returned (.bool (decide (es=es')))∧ ∃k,w'=w.drewN k:=by
 have HH:=qH h;clear h;have HH':=qH h';clear h';have HL:=qH HH.out.len;have HL':=qH HH'.out.len;go_enter Tryz.func55,Tryz.ntmps55;by_cases hnn:n=n';case neg=>
  have hne:((n:Int)!=(n':Int))=true:=by simp;omega
  have HD:=qH (show decide (es=es')=false from decide_eq_false fun e=>hnn (by rw[←HL.out,←HL'.out,e]));go_wp2;go_ret;exact⟨ret_bool HD.out.symm,0,rfl⟩
 subst hnn;have hne:((n:Int)!=(n:Int))=false:=by simp
 go_wp2;clear hne;go_loopw[13](fun i wr=> ∃k q:Nat,i=.int .i64 k∧k≤n∧es.take k=es'.take k∧wr=w.drewN q)(fun i _=>n-(intOf i).toNat);case atStart=>exact⟨0,0,rfl,Nat.zero_le _,rfl,rfl⟩
 case round=>
  obtain⟨k,q,rfl,hk,htk,rfl⟩:=hrel;have HTK:=qH htk;clear htk;by_cases hkn:k<n
  ·have hkl:k<es.length:=by rw[HL.out];exact hkn
   have hkl':k<es'.length:=by rw[HL'.out];exact hkn
   obtain⟨b,off,rfl,hb,hc⟩:=HH.out.ev k hkl;obtain⟨b',off',rfl,hb',hc'⟩:=HH'.out.ev k hkl';obtain⟨e0,e1,e2,e3,e4,e5,e6,e7⟩:=hc;obtain⟨f0,f1,f2,f3,f4,f5,f6,f7⟩:=hc';have t1:(k:Int)<n:=by omega
   have HST:=qH (fun he=>take_eq_step HTK.out hkl hkl' he);have HNE:=qH (show es[k]≠es'[k]→decide (es=es')=false from fun hx=>decide_eq_false fun e=>hx (by subst e;rfl));generalize es[k]=x at*;generalize es'[k]=y at*;by_cases hxy:x=y
   ·subst hxy;have HS2:=qH (HST.out rfl);go_wp2;go_quiet(fail);go_wp2;go_roundw;case rel=>exact⟨k+1,q+nq,by go_num,by omega,HS2.out,by first|rfl|exact World.drewN_drewN ..⟩
    case measure=>simp[intOf];omega
   ·have HN:=qH (HNE.out hxy);have kne:=ev_neq x y hxy;unfold Ev.agg at kne;clear hxy;go_wp2;go_quiet(fail);go_wp2;go_ret;exact⟨ret_bool HN.out.symm,_,World.drewN_drewN ..⟩
  ·have HD:=qH (show decide (es=es')=true from decide_eq_true (by have:=HTK.out;rwa[List.take_of_length_le (by rw[HL.out];omega),List.take_of_length_le (by rw[HL'.out];omega)]at this));go_wp2;go_ret;exact⟨ret_bool HD.out.symm,_,rfl⟩
theorem eqst_g(w:World)(B B':Nat)(A A':Option Addr)(n n' c c':Nat)(ss ss':List (List UInt8))(h:Strs w B A n c ss)(h':Strs w B' A' n' c' ss')(hn:n≤100000)(hn':n'≤100000):Calls Tryz.prog 56 #[.slice A n c,.slice A' n' c'] w fun e w'=>e=.returned (.bool (decide (ss=ss')))∧ ∃k,w'=w.drewN k:=by
 have HH:=qH h;clear h;have HH':=qH h';clear h';have HL:=qH HH.out.len;have HL':=qH HH'.out.len;go_enter Tryz.func56,Tryz.ntmps56;by_cases hnn:n=n';case neg=>
  have hne:((n:Int)!=(n':Int))=true:=by simp;omega
  have HD:=qH (show decide (ss=ss')=false from decide_eq_false fun e=>hnn (by rw[←HL.out,←HL'.out,e]));go_wp2;go_ret;exact⟨ret_bool HD.out.symm,0,rfl⟩
 subst hnn;have hne:((n:Int)!=(n:Int))=false:=by simp
 go_wp2;clear hne;go_loopw[13](fun i wr=> ∃k q:Nat,i=.int .i64 k∧k≤n∧ss.take k=ss'.take k∧wr=w.drewN q)(fun i _=>n-(intOf i).toNat);case atStart=>exact⟨0,0,rfl,Nat.zero_le _,rfl,rfl⟩
 case round=>
  obtain⟨k,q,rfl,hk,htk,rfl⟩:=hrel;have HTK:=qH htk;clear htk;by_cases hkn:k<n
  ·have hkl:k<ss.length:=by rw[HL.out];exact hkn
   have hkl':k<ss'.length:=by rw[HL'.out];exact hkn
   obtain⟨b,off,rfl,hb,hc⟩:=HH.out.at_ k hkl;obtain⟨b',off',rfl,hb',hc'⟩:=HH'.out.at_ k hkl';have t1:(k:Int)<n:=by omega
   have HST:=qH (fun he=>take_eq_step HTK.out hkl hkl' he);have HNE:=qH (show ss[k]≠ss'[k]→decide (ss=ss')=false from fun hx=>decide_eq_false fun e=>hx (by subst e;rfl));generalize ss[k]=x at*;generalize ss'[k]=y at*;by_cases hxy:x=y
   ·subst hxy;have HS2:=qH (HST.out rfl);have t5:(!(x==x))=false:=by simp
    go_wp2;go_quiet(fail);go_wp2;go_roundw;case rel=>exact⟨k+1,_,by go_num,by omega,HS2.out,rfl⟩
    case measure=>simp[intOf];omega
   ·have HN:=qH (HNE.out hxy);have t5:(!(x==y))=true:=by simp[hxy]
    clear hxy;go_wp2;go_quiet(fail);go_wp2;go_ret;exact⟨ret_bool HN.out.symm,_,World.drewN_drewN ..⟩
  ·have HD:=qH (show decide (ss=ss')=true from decide_eq_true (by have:=HTK.out;rwa[List.take_of_length_le (by rw[HL.out];omega),List.take_of_length_le (by rw[HL'.out];omega)]at this));go_wp2;go_ret;exact⟨ret_bool HD.out.symm,_,rfl⟩
open Go.Shelf
theorem heap_new_at9(w:World)(o:Obj)(k:Nat)(h:k=w.heap.size):(w.alloc o).heap[k]?=some o:=h▸heap_alloc_new w o
theorem rising_lenW{r ks:List (List UInt8)}(h:Rising r ks):r.length≤ks.length:=by
 have hnd:r.Nodup:=List.pairwise_iff_getElem.2 fun i j hi hj hij e=>by have:=List.pairwise_iff_getElem.1 h.1 i j hi hj hij;rw[e]at this;exact lt_irr _ this
 exact nodup_sub hnd fun x hx=>(h.2 x).1 hx
theorem twsm_g(w:World)(F F':Nat→Prop)(bi bj N M:Nat)(x y:Itk)(h:ItkAt w F bi N x)(h':ItkAt w F' bj M y)(hN:N≤90000)(hM:M≤90000)(hh:encH x.had=encH y.had→x.had=y.had)(hmx:MaxAt w)(ht:Lib.TabBelow Tryz.prog w.heap.size w "internal/strconv.uint64pow10" .u64 Lib.pow10Tab)(hgl:x.gone.length≤90000)(hgl':y.gone.length≤90000)(qq:Bool)(hq:SameI x y↔qq=true):Calls Tryz.prog 13 #[.pointer (some ⟨bi,0,none⟩),.pointer (some ⟨bj,0,none⟩)] w (Says qq w):=by
 have HP2:=qH (show∀W,RowKit.Below w.heap.size w W→Calls Tryz.prog 23 #[.pointer (some ⟨bj,0,none⟩)] W (PtsPost W y)from fun W hW=>parts_any W F' bj M y (h'.up hW) hM (hmx.up hW) (tab_up ht hW));have HP1:=qH (parts_any w F bi N x h hN hmx ht);have HTL:=qH (show x.taken.length≤90000 from by obtain⟨_,_,hO,_⟩:=h;exact Nat.le_trans hO.taken hN);have HTL2:=qH (show y.taken.length≤90000 from by obtain⟨_,_,hO,_⟩:=h';exact Nat.le_trans hO.taken hM);have HH:=qH hh;have HQ:=qH hq;have HGL:=qH (And.intro hgl hgl');clear h h' hmx ht hh hq hgl hgl';go_enter Tryz.func13,Tryz.ntmps13;go_wp2_with fail;refine HP1.out.mono ?_;rintro r w1⟨vc,vh,vt,vl,vg,r1,rfl,hV,hb1⟩;obtain⟨Ac,kc,rfl⟩:=hV.clk.form;obtain⟨Ah,kh,rfl⟩:=hV.had.form;obtain⟨At,kt,rfl⟩:=ownsRow_form hV.taken;obtain⟨Al,kl,rfl⟩:=ownsRow_form hV.late;obtain⟨Ag,kg,rfl⟩:=ownsRow_form hV.gone;have HV:=qH hV;have HB1:=qH hb1;clear hV hb1;go_wp2_with fail;refine(HP2.out w1 HB1.out).mono ?_;rintro r w2⟨vc2,vh2,vt2,vl2,vg2,r2,rfl,hV2,hb2⟩;obtain⟨Ac2,kc2,rfl⟩:=hV2.clk.form;obtain⟨Ah2,kh2,rfl⟩:=hV2.had.form;obtain⟨At2,kt2,rfl⟩:=ownsRow_form hV2.taken;obtain⟨Al2,kl2,rfl⟩:=ownsRow_form hV2.late;obtain⟨Ag2,kg2,rfl⟩:=ownsRow_form hV2.gone;have HV2:=qH (HV.out.up hb2);have HW2:=qH hV2;have HB2:=qH (HB1.out.trans (hb2.mono HB1.out.size));clear hV2 hb2 HV;go_upto_region 4 with fail;generalize hw4:(World.alloc (World.alloc w2 _) _)=w4;have hb24:RowKit.Below w2.heap.size w2 w4:=by rw[←hw4];exact((Below.refl _ _).alloc (Nat.le_refl _) _).alloc (by simp) _
 have h5:w4.heap[w2.heap.size]?=some (ptsObj x.clk.slack x.clk.idle (.slice Ac (encC x.clk).length kc) (.slice Ah (encH x.had).length kh) (.slice At x.taken.length kt) (.slice Al x.late.length kl) (.slice Ag r1.length kg)):=by rw[←hw4];exact(heap_alloc_old _ _ (by simp)).trans (heap_alloc_new w2 _)
 have h6:w4.heap[w2.heap.size+1]?=some (ptsObj y.clk.slack y.clk.idle (.slice Ac2 (encC y.clk).length kc2) (.slice Ah2 (encH y.had).length kh2) (.slice At2 y.taken.length kt2) (.slice Al2 y.late.length kl2) (.slice Ag2 r2.length kg2)):=by rw[←hw4];exact heap_new_at9 _ _ _ (by simp)
 have k5:=fun o=>cell_of_row w4 w2.heap.size o _ _ (0,0) h5;have k6:=fun o=>cell_of_row w4 (w2.heap.size+1) o _ _ (0,0) h6;have p3:w4.cell? ⟨w2.heap.size,3,none⟩=some (.slice Ah (encH x.had).length kh):=(k5 3).trans rfl;have p4:w4.cell? ⟨w2.heap.size,4,none⟩=some (.slice At x.taken.length kt):=(k5 4).trans rfl;have p6:w4.cell? ⟨w2.heap.size,6,none⟩=some (.slice Ag r1.length kg):=(k5 6).trans rfl;have q3:w4.cell? ⟨w2.heap.size+1,3,none⟩=some (.slice Ah2 (encH y.had).length kh2):=(k6 3).trans rfl;have q4:w4.cell? ⟨w2.heap.size+1,4,none⟩=some (.slice At2 y.taken.length kt2):=(k6 4).trans rfl;have q6:w4.cell? ⟨w2.heap.size+1,6,none⟩=some (.slice Ag2 r2.length kg2):=(k6 6).trans rfl;have HV4:=qH (HV2.out.up hb24);have HW4:=qH (HW2.out.up hb24);have HB4:=qH (HB2.out.trans (hb24.mono HB2.out.size));have HR1:=qH (And.intro (Nat.le_trans (rising_lenW HV4.out.rise) HGL.out.1) (Nat.le_trans (rising_lenW HW4.out.rise) HGL.out.2));have HNO:=qH (show∀p:Prop,(SameI x y→p)→ ¬p→qq=false from fun p h1 h2=>by
  cases hqq:qq;·rfl
  ·exact absurd (h1 (HQ.out.2 hqq)) h2);clear hw4 hb24 h5 h6 k5 k6 HV2 HW2;have hb1n: ∀k,RowKit.Below w.heap.size w (w4.drewN k):=fun k=>below_drewN HB4.out k;have HBN:=qH hb1n;clear hb1n;have HE1:=qH (eqev_g w4 _ _ At At2 _ _ kt kt2 x.taken y.taken (Cel.of_own HV4.out.taken) (Cel.of_own HW4.out.taken) (by have:=HTL.out;omega) (by have:=HTL2.out;omega));go_wp2_with fail;by_cases ht:x.taken=y.taken;case neg=>have HE1a:=HE1.out;rw[decide_eq_false ht]at HE1a;refine HE1a.mono ?_;rintro r w5⟨rfl,z5,rfl⟩;have HF:=qH (show Says qq w (.returned (.bool false)) (w4.drewN z5)from⟨ret_bool (HNO.out _ (fun h=>h.taken) ht).symm,HBN.out z5⟩);clear HE1 HE1a p3 p4 p6 q3 q4 q6 ht;go_wp2;go_ret;exact HF.out
 have HE1a:=HE1.out;rw[decide_eq_true ht]at HE1a;have HTT:=qH ht;refine HE1a.mono ?_;rintro r w5⟨rfl,z5,rfl⟩;clear HE1a HE1 ht;have HE2:=qH (eqst_g (w4.drewN z5) _ _ Ag Ag2 _ _ kg kg2 r1 r2 (Cel.drewN (Cel.of_own HV4.out.gone) z5) (Cel.drewN (Cel.of_own HW4.out.gone) z5) (by have:=HR1.out;omega) (by have:=HR1.out;omega));go_wp2_with fail;by_cases hr:r1=r2;case neg=>have HE2a:=HE2.out;rw[decide_eq_false hr]at HE2a;refine HE2a.mono ?_;rintro r w6⟨rfl,z6,rfl⟩;have HF:=qH (show Says qq w (.returned (.bool false)) (w4.drewN (z5+z6))from⟨ret_bool (HNO.out _ (fun h=>rising_unique (ks:=x.gone) HV4.out.rise ⟨HW4.out.rise.1,fun p=>(HW4.out.rise.2 p).trans (h.gone p).symm⟩) hr).symm,HBN.out _⟩);clear HE2 HE2a p3 p4 p6 q3 q4 q6 hr;go_wp2;go_ret;exact HF.out
 have HE2a:=HE2.out;rw[decide_eq_true hr]at HE2a;have HRR:=qH hr;refine HE2a.mono ?_;rintro r w6⟨rfl,z6,rfl⟩;clear HE2a HE2 hr;have HE3:=qH (Tryz.bytes_Equal_strs (.slice Ah (encH x.had).length kh) (.slice Ah2 (encH y.had).length kh2) ⟨(encH x.had).toArray⟩ ⟨(encH y.had).toArray⟩ (w4.drewN (z5+z6)) ((OwnB.byt (OwnB.below HV4.out.had (below_drewN (Below.refl _ _) (z5+z6)) (Nat.le_refl _))).str (P:=Tryz.prog) 22 5 9 Tryz.underlying22 Tryz.underlying5 Tryz.underlying9) ((OwnB.byt (OwnB.below HW4.out.had (below_drewN (Below.refl _ _) (z5+z6)) (Nat.le_refl _))).str (P:=Tryz.prog) 22 5 9 Tryz.underlying22 Tryz.underlying5 Tryz.underlying9));obtain⟨q,hqd⟩: ∃q,q=((⟨(encH x.had).toArray⟩:ByteArray).toList==(⟨(encH y.had).toArray⟩:ByteArray).toList):=⟨_,rfl⟩;have HQD:=qH hqd;rw[←hqd]at HE3;have HQQ:=qH (show q=qq from by
  have hl: ∀l:List UInt8,(⟨l.toArray⟩:ByteArray).toList=l:=fun l=>by simp
  have hqd2:=HQD.out;rw[hl,hl]at hqd2;cases hqv:q;·rw[hqv]at hqd2;exact(HNO.out (encH x.had=encH y.had) (fun h=>by rw[h.had]) (fun e=>by rw[e]at hqd2;simp at hqd2)).symm
  ·rw[hqv]at hqd2;have e:encH x.had=encH y.had:=by simpa using hqd2.symm
   exact((HQ.out.1 ⟨HTT.out,fun p=>by rw[←HV4.out.rise.2 p,HRR.out];exact HW4.out.rise.2 p,HH.out e⟩)).symm);clear hqd;go_wp2_with fail;refine HE3.out.mono ?_;rintro r w7⟨rfl,rfl⟩;have HF:=qH (show Says qq w (.returned (.bool q)) (w4.drewN (z5+z6))from⟨ret_bool HQQ.out,HBN.out _⟩);clear HE3 p3 p4 p6 q3 q4 q6;go_wp2;go_ret;exact HF.out
theorem twsm_any(w:World)(F F':Nat→Prop)(bi bj N M:Nat)(x y:Itk)(h:ItkAt w F bi N x)(h':ItkAt w F' bj M y)(hN:N≤90000)(hM:M≤90000)(hs:SameI x y)(hmx:MaxAt w)(ht:Lib.TabBelow Tryz.prog w.heap.size w "internal/strconv.uint64pow10" .u64 Lib.pow10Tab)(hgl:x.gone.length≤90000)(hgl':y.gone.length≤90000):Calls Tryz.prog 13 #[.pointer (some ⟨bi,0,none⟩),.pointer (some ⟨bj,0,none⟩)] w (Says true w):=twsm_g w F F' bi bj N M x y h h' hN hM (fun _=>hs.had) hmx ht hgl hgl' true ⟨fun _=>rfl,fun _=>hs⟩
end Go.Proofs.YtcmmclliabhnjaaGreatDoor
