/-
  Layer 8, the document's: Put.
-/
import Derived.Deep.MidRow
import Derived.Test.YtbejfgmdkmddnaaGreatDoorVParts
set_option maxRecDepth 100000
set_option maxHeartbeats 16000000
namespace Go.Proofs.YtbejfgmdkmddnaaGreatDoor
open Go.RowKit Go.Maps Go.Sort
theorem A8(w:World)(B:Nat)(A:Option Addr)(n c:Nat)(ss:List (List UInt8))(h:Strs w B A n c ss)(hn:n≤100000)(s:List UInt8):Calls Tryz.prog 176 #[.slice A n c,.string ⟨s.toArray⟩] w fun e w'=>e=.returned (.bool (decide (s∈ss)))∧w=w':=by
 have HH:=qH h;clear h;go_enter Tryz.func176,Tryz.ntmps176;go_wp2;go_loop[5](fun i=> ∃k:Nat,i=.int .i64 k∧k≤n∧Hid (∀j(hj:j<ss.length),j<k→ss[j]≠s))(fun i=>n-(intOf i).toNat);case atStart=>exact⟨0,rfl,Nat.zero_le _,fun j _ h=>by omega⟩
 case round=>
  obtain⟨k,rfl,hk,HK⟩:=hrel;by_cases hkn:k<n
  ·have hkl:k<ss.length:=by rw[HH.o.len];exact hkn
   obtain⟨b,off,rfl,hb,hc⟩:=HH.o.at_ k hkl;have t1:(k:Int)<n:=by omega
   cases he:(ss[k]==s)
   ·have hne:ss[k]≠s:=by simpa using he
    have HN:=qH hne;clear hne;go_wp2;go_round;case rel=>
     exact⟨k+1,by go_num,by omega,fun j hj hlt=>by
      by_cases e:j=k;·subst e;exact HN.o
      ·exact HK.o j hj (by omega)⟩
    case measure=>simp[intOf];omega
   ·have hin:s∈ss:=by
     have:ss[k]=s:=by simpa using he
     rw[←this];exact List.getElem_mem hkl
    have HI:=qH hin;clear hin;go_wp2;go_ret;exact⟨ae (decide_eq_true HI.o).symm,rfl⟩
  ·have hni:s∉ss:=fun hin=>by obtain⟨j,hj,e⟩:=List.getElem_of_mem hin;exact HK.o j hj (by rw[HH.o.len]at hj;omega) e
   have HI:=qH hni;clear hni;go_wp2;go_ret;exact⟨ae (decide_eq_false HI.o).symm,rfl⟩
def DV(es:List Ev)(e:Ev):Bool:=decide (bB e∈es.map bB)
def YN(w1:World)(es:List Ev)(e:Ev)(i:Value)(wr:World):Prop:= ∃k q:Nat,i=.int .i64 k∧k≤es.length∧(∀a∈es.take k,bB a≠bB e)∧wr=w1.drewN q
theorem Li(w:World)(A:Option Addr)(n c:Nat)(es:List Ev)(h:fV w w.heap.size A n c es)(hn:n≤100000)(e:Ev):Calls Tryz.prog 129 #[.slice A n c,e.agg] w (Says (DV es e) w):=by
 have HH:=qH h;clear h;have HL:=qH HH.o.len;have hb1:Below w.heap.size w (w.alloc (ai e)):=(Below.refl _ _).alloc (Nat.le_refl _) _;have qD:=qH (dO.new w e);have UK:=qS (fV (w.alloc (ai e)) w.heap.size A n c es) (az.below HH.o hb1);have hsw:(w.alloc (ai e)).heap.size=w.heap.size+1:=by simp
 unfold Ev.agg;go_enter Tryz.func129,Tryz.ntmps129;go_wp2;generalize w.alloc (ai e)=w1 at*;go_loopw[5](fun i wr=>YN w1 es e i wr)(fun i _=>n-(intOf i).toNat);case atStart=>exact⟨0,0,rfl,Nat.zero_le _,fun a ha=>by simp at ha,rfl⟩
 case round=>
  obtain⟨k,q,rfl,hk,hno,hwr⟩:=hrel;have xx:=qH hno;clear hno;have hbq:Below w.heap.size w wr:=by rw[hwr];exact below_drewN hb1 q
  have HHQ:=qS (fV wr w.heap.size A n c es) (by rw[hwr];exact UK.o.drewN q);have QM:=qS (dO wr w.heap.size e) (by rw[hwr];exact qD.o);have Ze:=qS (∀m,∃q',wr.drewN m=w1.drewN q') (fun m=>by rw[hwr];exact⟨_,World.drewN_drewN ..⟩);clear hwr;by_cases hkn:k<n
  ·have hkl:k<es.length:=by have:=HL.o;omega
   obtain⟨b,off,rfl,hb,hev⟩:=HHQ.o.ev k hkl;obtain⟨e0,e1,e2,e3,e4,e5,e6,e7⟩:=hev;obtain⟨g0,g1,g2,g3,g4,g5,g6,g7⟩:=QM.o;have dx:=qS (bB es[k]≠bB e→ ∀a∈es.take (k+1),bB a≠bB e) (fun h a ha=>by
    rw[List.take_add_one,List.getElem?_eq_getElem hkl,Option.toList_some]at ha;rcases List.mem_append.1 ha with ha|ha;·exact xx.o a ha
    ·rw[List.mem_singleton]at ha;rw[ha];exact h);have qJ:=qS (bB es[k]=bB e→bB e∈es.map bB) (fun h=>List.mem_map.2 ⟨es[k],List.getElem_mem hkl,h⟩);generalize es[k]=x at*;have t1:(k:Int)<n:=by omega
   clear e2 e3 e4 e5 e6 e7 g2 g3 g4 g5 g6 g7;by_cases hs:x.src=e.src
   ·by_cases hm:x.num=e.num
    ·have HR:=qS (DV es e=true) (decide_eq_true (qJ.o (by unfold bB;rw[hs,hm])));have s1:(x.src==e.src)=true:=by simp[hs]
     have s2:(x.num==e.num)=true:=by simp[hm]
     clear hs hm dx qJ;go_wp2;go_quiet(fail);go_wp2;go_ret;exact⟨ae HR.o.symm,below_drewN hbq _⟩
    ·have HR:=qH (dx.o (fun he=>hm (by unfold bB at he;injection he)));have s1:(x.src==e.src)=true:=by simp[hs]
     have s2:(x.num==e.num)=false:=by simp[hm]
     clear hs hm dx qJ;go_wp2;go_quiet(fail);go_wp2;go_roundw;case rel=>obtain⟨q',hq'⟩:=Ze.o nq;exact⟨k+1,q',by go_num,by have:=HL.o;omega,HR.o,hq'⟩
     case measure=>simp[intOf];omega
   ·have HR:=qH (dx.o (fun he=>hs (by unfold bB at he;injection he)));have s1:(x.src==e.src)=false:=by simp[hs]
    clear hs dx qJ;go_wp2;go_quiet(fail);go_wp2;go_roundw;case rel=>obtain⟨q',hq'⟩:=Ze.o nq;exact⟨k+1,q',by go_num,by have:=HL.o;omega,HR.o,hq'⟩
    case measure=>simp[intOf];omega
  ·have t1: ¬(k:Int)<n:=by omega
   have HR:=qS (DV es e=false) (decide_eq_false fun hm=>by obtain⟨a,ha,he⟩:=List.mem_map.1 hm;exact xx.o a (by rw[List.take_of_length_le (by have:=HL.o;omega)];exact ha) he);go_wp2;go_ret;exact⟨ae HR.o.symm,hbq⟩
theorem nK(es:List Ev)(p:Ev→Bool)(k:Nat)(hk:k<es.length):(es.take (k+1)).filter p=(es.take k).filter p++(if p es[k]then[es[k]]else[]):=by rw[List.take_add_one,List.getElem?_eq_getElem hk,Option.toList_some,List.filter_append];simp[List.filter_cons]
theorem wm(w:World)(p:List UInt8)(A:Option Addr)(n c:Nat)(es:List Ev)(h:fV w w.heap.size A n c es)(hn:n≤90000):Calls Tryz.prog 182 #[.slice A n c,.string ⟨p.toArray⟩] w (vN w es (bT p)):=by
 have HH:=qH h;clear h;obtain⟨i0,hi,hz0,hz1,hz2⟩:=info_parts iM;have HI:=qH hi;have HZ0:=qH hz0;have HZ1:=qH hz1;have HZ2:=qH hz2;clear hi hz0 hz1 hz2;go_enter Tryz.func182,Tryz.ntmps182;go_wp2;go_loopw[5,6](fun v i wr=>jR w n es (bT p) v i wr)(fun _ i _=>n-(intOf i).toNat);case atStart=>exact⟨0,rfl,Nat.zero_le _,World.ownsRow_lit w #[] 0 (Nat.le_refl _) (by simp[maxLen]) rfl,(Below.refl _ _).alloc (Nat.le_refl _) _⟩
 case round=>
  obtain⟨k,rfl,hk,hown,hbel⟩:=hrel;have HO:=qH hown;clear hown;have hs0:=hbel.size;by_cases hkn:k<n
  ·have hkl:k<es.length:=by rw[HH.o.len];exact hkn
   obtain⟨b,off,rfl,hb,hev⟩:=HH.o.ev k hkl;obtain⟨e0,e1,e2,e3,e4,e5,e6,e7⟩:=hev.below hbel hb;clear hev;have dx:=qH (nK es (bT p) k hkl);have hlen:((es.take k).filter (bT p)).length≤k:=by have:=List.length_filter_le (bT p) (es.take k);rw[List.length_take]at this;omega
   generalize es[k]=x at*;have t1:(k:Int)<n:=by omega
   have UJ:=qS (bT p x=((x.per !=p)||(x.kind==14))) (rfl);have oo:Hid (bT p x=true→(es.take (k+1)).filter (bT p)=(es.take k).filter (bT p)++[x]):=fun h=>by have:=dx.o;rw[h]at this;simpa using this
   have KQ:Hid (bT p x=false→(es.take (k+1)).filter (bT p)=(es.take k).filter (bT p)):=fun h=>by have:=dx.o;rw[h]at this;simpa using this
   generalize(es.take k).filter (bT p)=out at*;cases hp:(x.per==p)
   ·have b1:(x.per !=p)=true:=by simp[bne,hp]
    have HT:=qH (oo.o (by rw[UJ.o,b1];rfl));clear oo KQ UJ dx;go_wp2_with(at_builtin;refine av (P:=Tryz.prog) rfl (.tmp 29) (.tmp 34) 22 rfl 31 i0 _ 8 96 Tryz.underlying22 HI.o HZ0.o HZ1.o HZ2.o rfl (by decide) w.heap.size _ out.length (aj out) rfl ?c1 (wr.heap.size+1) _ _ _ x.cells rfl ?c2 (cells_one x) ?c4 ?c5 ?c6 ?_);case c1=>exact World.ownsRow.alloc HO.o _
    case c2=>exact az.new wr _ _ (by unfold maxLen;omega) rfl
    case c4=>unfold maxLen;omega
    case c5=>omega
    case c6=>first|omega|(simp;omega)
    intro v' w2 hown2 hg2 _;have hb2:Below w.heap.size w w2:=Below.grown (hbel.alloc (by omega) _) hg2 (by simp;omega) (fun k' hk'=>(World.ownsRow.lt HO.o k' hk').1);have HR:=qS (jR w n es (bT p) v' (.int .i64 ((k+1:Nat):Int)) w2) (⟨k+1,rfl,by omega,by rw[HT.o];unfold aP;rw[dD,List.length_append];exact hown2,hb2⟩);clear hown2 hg2 hb2 e0 e1 e2 e3 e4 e5 e6 e7;go_wp2;go_roundw;case rel=>exact HR.o
    case measure=>simp[intOf];omega
   ·have b1:(x.per !=p)=false:=by simp[bne,hp]
    cases hk14:(x.kind==14)
    ·have HR:=qS (jR w n es (bT p) u5 (.int .i64 ((k+1:Nat):Int)) wr) (⟨k+1,rfl,by omega,by rw[KQ.o (by rw[UJ.o,b1,hk14];rfl)];exact HO.o,hbel⟩);clear oo KQ UJ dx;go_wp2;go_roundw;case rel=>exact HR.o
     case measure=>simp[intOf];omega
    ·have HT:=qH (oo.o (by rw[UJ.o,b1,hk14];rfl));clear oo KQ UJ dx;go_wp2_with(at_builtin;refine av (P:=Tryz.prog) rfl (.tmp 29) (.tmp 34) 22 rfl 31 i0 _ 8 96 Tryz.underlying22 HI.o HZ0.o HZ1.o HZ2.o rfl (by decide) w.heap.size _ out.length (aj out) rfl ?c1 (wr.heap.size+1) _ _ _ x.cells rfl ?c2 (cells_one x) ?c4 ?c5 ?c6 ?_);case c1=>exact World.ownsRow.alloc HO.o _
     case c2=>exact az.new wr _ _ (by unfold maxLen;omega) rfl
     case c4=>unfold maxLen;omega
     case c5=>omega
     case c6=>first|omega|(simp;omega)
     intro v' w2 hown2 hg2 _;have hb2:Below w.heap.size w w2:=Below.grown (hbel.alloc (by omega) _) hg2 (by simp;omega) (fun k' hk'=>(World.ownsRow.lt HO.o k' hk').1);have HR:=qS (jR w n es (bT p) v' (.int .i64 ((k+1:Nat):Int)) w2) (⟨k+1,rfl,by omega,by rw[HT.o];unfold aP;rw[dD,List.length_append];exact hown2,hb2⟩);clear hown2 hg2 hb2 e0 e1 e2 e3 e4 e5 e6 e7;go_wp2;go_roundw;case rel=>exact HR.o
     case measure=>simp[intOf];omega
  ·have hkk:es.take k=es:=List.take_of_length_le (by rw[HH.o.len];omega);have HKK:=qH hkk;clear hkk;go_wp2;go_ret;exact⟨u5,rfl,by have:=HO.o;rw[HKK.o]at this;exact this,hbel⟩
def rD(ss:List (List UInt8))(s:List UInt8):List (List UInt8):=if s∈ss then ss else(ss.takeWhile fun x=>Op.bytesLess x s)++s::(ss.dropWhile fun x=>Op.bytesLess x s)
theorem VH{ss:List (List UInt8)}{s:List UInt8}(k:Nat)(hk:k≤ss.length)(h1: ∀i(h:i<ss.length),i<k→Op.bytesLess ss[i] s=true)(h2: ∀h:k<ss.length,Op.bytesLess ss[k] s=false):(ss.takeWhile fun x=>Op.bytesLess x s)=ss.take k∧(ss.dropWhile fun x=>Op.bytesLess x s)=ss.drop k:=by
 have e0:ss=ss.take k++ss.drop k:=(List.take_append_drop k ss).symm;have hp: ∀x∈ss.take k,Op.bytesLess x s=true:=fun x hx=>by obtain⟨i,hi,rfl⟩:=List.getElem_of_mem hx;rw[List.length_take]at hi;rw[List.getElem_take];exact h1 i (by omega) (by omega)
 have ht:(ss.drop k).takeWhile (fun x=>Op.bytesLess x s)=[]:=by
  rcases Nat.lt_or_ge k ss.length with hlt|hge;·rw[List.drop_eq_getElem_cons hlt,List.takeWhile_cons_of_neg (by rw[h2 hlt];simp)]
  ·rw[List.drop_of_length_le hge];rfl
 have h3:(ss.takeWhile fun x=>Op.bytesLess x s)=ss.take k:=by
  conv=>lhs;rw[e0]
  rw[List.takeWhile_append_of_pos hp,ht,List.append_nil]
 refine⟨h3,?_⟩;have h4:ss.takeWhile (fun x=>Op.bytesLess x s)++ss.dropWhile (fun x=>Op.bytesLess x s)=ss:=List.takeWhile_append_dropWhile;rw[h3]at h4;have h5:ss.take k++ss.drop k=ss.take k++ss.dropWhile (fun x=>Op.bytesLess x s):=by rw[h4,List.take_append_drop]
 exact(List.append_cancel_left h5).symm
def nD(w:World)(S:Nat→Prop)(ss:List (List UInt8))(e:Ending)(w':World):Prop:= ∃A' c',e=.returned (.slice A' ss.length c')∧Strs w' w'.heap.size A' ss.length c' ss∧lF (fun b=>S b∨(w.heap.size≤b∧b<w'.heap.size)) A' ss.length∧Below w.heap.size w w'
theorem FW(l:List (List UInt8)): ∀u∈l.map encStr,u.oneCell'=true:=fun u hu=>by obtain⟨x,_,rfl⟩:=List.mem_map.1 hu;rfl
theorem tu{w:World}{base n:Nat}{e:TypeId}{size:Nat}{A:Option Addr}{c:Nat}{xs:List Value}(h:w.ownsRow base e size (.slice A n c) n xs):lF (fun b=>base≤b∧b<w.heap.size) A n:=by
 intro a ha hn;subst ha;rcases h.2 with⟨_,h'⟩|⟨g,cap,cur,e,hb,hg,_⟩;·omega
 ·injection e with e1;injection e1 with e1;subst e1;exact⟨hb,(Array.getElem?_eq_some_iff.1 hg).1⟩
theorem Hg(w:World)(S:Nat→Prop)(A:Option Addr)(n c:Nat)(ss:List (List UInt8))(h:Strs w w.heap.size A n c ss)(hvw:lF S A n)(hn:n≤90000)(s:List UInt8):Calls Tryz.prog 181 #[.slice A n c,.string ⟨s.toArray⟩] w (nD w S (rD ss s)):=by
 have HH:=qH h;clear h;have HL:=qH HH.o.len;have HVW:=qH hvw;clear hvw;obtain⟨i0,hi,hz0,hz1,hz2⟩:=info_parts xY;have HI:=qH hi;have HZ0:=qH hz0;have HZ1:=qH hz1;have HZ2:=qH hz2;clear hi hz0 hz1 hz2;go_enter Tryz.func181,Tryz.ntmps181;go_wp2_with fail;refine(A8 w _ A n c ss HH.o (by omega) s).mono ?_;rintro r w1⟨rfl,rfl⟩;by_cases hin:s∈ss
 ·have HR:=qS (nD w S (rD ss s) (.returned (.slice A n c)) w) (by
   have e:rD ss s=ss:=by unfold rD;rw[if_pos hin]
   rw[e];have hl:=HL.o;subst hl;exact⟨A,c,rfl,HH.o,HVW.o.mono (fun b hb=>.inl hb),Below.refl _ _⟩);rw[decide_eq_true hin];clear hin;go_wp2;go_ret;exact HR.o
 have HPT:=qS (rD ss s=(ss.takeWhile fun x=>Op.bytesLess x s)++s::(ss.dropWhile fun x=>Op.bytesLess x s)) (by unfold rD;rw[if_neg hin]);rw[decide_eq_false hin];clear hin;have hcap:=az.cap HH.o;go_wp2;go_loop[5](fun i=> ∃k:Nat,i=.int .i64 k∧k≤n∧Hid (∀j(h:j<ss.length),j<k→Op.bytesLess ss[j] s=true))(fun i=>n-(intOf i).toNat);case atStart=>exact⟨0,rfl,Nat.zero_le _,fun j _ h=>by omega⟩
 case round=>
  obtain⟨k,rfl,hk,HK⟩:=hrel;have GA:Hid ((∀h:k<ss.length,Op.bytesLess ss[k] s=false)→rD ss s=ss.take k++s::ss.drop k):=fun h=>by obtain⟨h1,h2⟩:=VH k (by have:=HL.o;omega) HK.o h;rw[HPT.o,h1,h2]
  obtain⟨TK,hTK⟩: ∃TK,TK=(ss.take k).map encStr:=⟨_,rfl⟩;obtain⟨DK,hDK⟩: ∃DK,DK=(ss.drop k).map encStr:=⟨_,rfl⟩;have U1:=qS (∀u∈TK,u.oneCell'=true) (by rw[hTK];exact FW _);have U2:=qS (∀u∈DK,u.oneCell'=true) (by rw[hDK];exact FW _);have dx:=qH hTK;have HDK:=qH hDK;clear hTK hDK;by_cases hkn:k<n
  ·have hkl:k<ss.length:=by have:=HL.o;omega
   obtain⟨b,off,rfl,hb,hc⟩:=HH.o.at_ k hkl;have t1:(k:Int)<n:=by omega
   cases hbl:Op.bytesLess ss[k] s
   ·have HE:=qH (GA.o (fun _=>hbl));clear GA;generalize ss[k]=y at*;have bJ:Below w.heap.size w (w.alloc (.cells #[] 9)):=(Below.refl _ _).alloc (Nat.le_refl _) _;have uz:=qS ((w.alloc (.cells #[] 9)).ownsRow w.heap.size 9 1 (.slice (some ⟨w.heap.size,0,none⟩) 0 0) 0 []) (World.ownsRow_lit w #[] 0 (Nat.le_refl _) (by simp[maxLen]) rfl);have rX:=qS (az (w.alloc (.cells #[] 9)) w.heap.size 1 (some ⟨b,off,none⟩) k c TK) (by have:=az.upto (az.below HH.o bJ) k hk;rw[Nat.mul_one,←List.map_take,←dx.o]at this;exact this);have hkc:k≤c:=by omega
    have uA:=qH bJ;clear bJ;go_wp2_with(at_builtin;refine av (P:=Tryz.prog) rfl (.tmp 25) (.tmp 28) 40 rfl 9 i0 _ 1 16 Tryz.underlying40 HI.o HZ0.o HZ1.o HZ2.o rfl (by decide) w.heap.size _ 0 [] rfl ?c1 w.heap.size _ _ _ TK rfl ?c2 (by first|exact U1.o|exact U2.o|simp[Value.oneCell']) (by unfold maxLen;omega) (by omega) (by first|omega|(simp;done)|(simp;omega)) ?_);case c1=>exact uz.o
    case c2=>exact rX.o
    intro v2 w2 how2 hgw2 hvw2;have dW:=qS (w2.ownsRow w.heap.size 9 1 v2 k TK) (by have h2:=how2;first|exact h2|(rw[Nat.zero_add]at h2;exact h2));have hb2:Below w.heap.size w w2:=Below.grown uA.o hgw2 (by simp) (fun j hj=>(uz.o.lt j hj).1);have hs2:=hb2.size;clear how2 hgw2 hvw2 uz rX uA;go_wp2_with(at_builtin;refine av (P:=Tryz.prog) rfl (.tmp 29) (.tmp 31) 40 rfl 9 i0 _ 1 16 Tryz.underlying40 HI.o HZ0.o HZ1.o HZ2.o rfl (by decide) w.heap.size _ k TK rfl ?c1 (w2.heap.size+1) _ _ _ [.string ⟨s.toArray⟩] rfl ?c2 (by first|exact U1.o|exact U2.o|simp[Value.oneCell']) (by unfold maxLen;omega) (by omega) (by first|omega|(simp;done)|(simp;omega)) ?_);case c1=>exact World.ownsRow.alloc dW.o _
    case c2=>exact az.new w2 #[.string ⟨s.toArray⟩] _ (by unfold maxLen;omega) rfl
    intro v3 w3 how3 hgw3 hvw3;have ow:=qH how3;have hb3:Below w.heap.size w w3:=Below.grown (hb2.alloc hs2 (.cells #[.string ⟨s.toArray⟩] 9)) hgw3 (by simp;omega) (fun j hj=>(dW.o.lt j hj).1);have hs3:=hb3.size;have om:=qS (az w3 w.heap.size 1 (if c=k then(some ⟨b,off,none⟩)else Option.map (fun x:Addr=>x.add (k*1)) (some ⟨b,off,none⟩)) (n-k) (c-k) DK) (by have:=az.from_ (az.below HH.o hb3) k hk;rw[Nat.mul_one,←List.map_drop,←HDK.o]at this;rw[Nat.mul_one];exact this);clear how3 hgw3 hvw3;by_cases hcj:c=k
    ·rw[if_pos hcj]at om;go_wp2_with(at_builtin;refine av (P:=Tryz.prog) rfl (.tmp 33) (.tmp 36) 40 rfl 9 i0 _ 1 16 Tryz.underlying40 HI.o HZ0.o HZ1.o HZ2.o rfl (by decide) w.heap.size _ (k+1) (TK++[.string ⟨s.toArray⟩]) rfl ?c1 w.heap.size _ _ _ DK rfl ?c2 (by first|exact U1.o|exact U2.o|simp[Value.oneCell']) (by unfold maxLen;omega) (by omega) (by first|omega|(simp;done)|(simp;omega)) ?_);case c1=>exact ow.o
     case c2=>first|exact om.o|(have h8:=om.o;simpa[Addr.add_mid,hcj]using h8)
     intro v4 w4 how4 hgw4 hvw4;have hb4:Below w.heap.size w w4:=Below.grown hb3 hgw4 hs3 (fun j hj=>(ow.o.lt j hj).1);have HR:=qS (nD w S (rD ss s) (.returned v4) w4) (by
      have hlen:(ss.take k++s::ss.drop k).length=k+1+(n-k):=by rw[List.length_append,List.length_cons,List.length_take,List.length_drop,HL.o];omega
      have henc:(ss.take k++s::ss.drop k).map encStr=TK++[.string ⟨s.toArray⟩]++DK:=by rw[dx.o,HDK.o];simp[encStr]
      obtain⟨A4,c4,hv4⟩:=ownsRow_form how4;rw[HE.o];refine⟨A4,c4,by rw[hlen];first|exact congrArg _ hv4|(rw[hv4];simp),?_,?_,hb4⟩;·unfold Strs;rw[henc,hlen];have h9:=how4;rw[hv4]at h9;first|exact az.aI h9|(have:=az.aI h9;simpa using this)
      ·rw[hlen];have h9:=how4;rw[hv4]at h9;exact(tu h9).mono fun b h=>.inr h);clear how4 hgw4 hvw4 hb4;go_wp2;go_ret;exact HR.o
    ·rw[if_neg hcj]at om;go_wp2_with(at_builtin;refine av (P:=Tryz.prog) rfl (.tmp 33) (.tmp 36) 40 rfl 9 i0 _ 1 16 Tryz.underlying40 HI.o HZ0.o HZ1.o HZ2.o rfl (by decide) w.heap.size _ (k+1) (TK++[.string ⟨s.toArray⟩]) rfl ?c1 w.heap.size _ _ _ DK rfl ?c2 (by first|exact U1.o|exact U2.o|simp[Value.oneCell']) (by unfold maxLen;omega) (by omega) (by first|omega|(simp;done)|(simp;omega)) ?_);case c1=>exact ow.o
     case c2=>first|exact om.o|(have h8:=om.o;simpa[Addr.add_mid,hcj]using h8)
     intro v4 w4 how4 hgw4 hvw4;have hb4:Below w.heap.size w w4:=Below.grown hb3 hgw4 hs3 (fun j hj=>(ow.o.lt j hj).1);have HR:=qS (nD w S (rD ss s) (.returned v4) w4) (by
      have hlen:(ss.take k++s::ss.drop k).length=k+1+(n-k):=by rw[List.length_append,List.length_cons,List.length_take,List.length_drop,HL.o];omega
      have henc:(ss.take k++s::ss.drop k).map encStr=TK++[.string ⟨s.toArray⟩]++DK:=by rw[dx.o,HDK.o];simp[encStr]
      obtain⟨A4,c4,hv4⟩:=ownsRow_form how4;rw[HE.o];refine⟨A4,c4,by rw[hlen];first|exact congrArg _ hv4|(rw[hv4];simp),?_,?_,hb4⟩;·unfold Strs;rw[henc,hlen];have h9:=how4;rw[hv4]at h9;first|exact az.aI h9|(have:=az.aI h9;simpa using this)
      ·rw[hlen];have h9:=how4;rw[hv4]at h9;exact(tu h9).mono fun b h=>.inr h);clear how4 hgw4 hvw4 hb4;go_wp2;go_ret;exact HR.o
   ·have HN:=qS (∀j(h:j<ss.length),j<k+1→Op.bytesLess ss[j] s=true) (fun j hj hlt=>by
     by_cases e:j=k;·subst e;exact hbl
     ·exact HK.o j hj (by omega));clear GA;generalize ss[k]=y at*;go_wp2;go_round;case rel=>exact⟨k+1,by go_num,by omega,HN.o⟩
    case measure=>simp[intOf];omega
  ·have t1: ¬(k:Int)<n:=by omega
   have HE:=qH (GA.o (fun h=>by have:=HL.o;omega));clear GA;have bJ:Below w.heap.size w (w.alloc (.cells #[] 9)):=(Below.refl _ _).alloc (Nat.le_refl _) _;have uz:=qS ((w.alloc (.cells #[] 9)).ownsRow w.heap.size 9 1 (.slice (some ⟨w.heap.size,0,none⟩) 0 0) 0 []) (World.ownsRow_lit w #[] 0 (Nat.le_refl _) (by simp[maxLen]) rfl);have rX:=qS (az (w.alloc (.cells #[] 9)) w.heap.size 1 A k c TK) (by have:=az.upto (az.below HH.o bJ) k hk;rw[Nat.mul_one,←List.map_take,←dx.o]at this;exact this);have hkc:k≤c:=by omega
   have uA:=qH bJ;clear bJ;go_wp2_with(at_builtin;refine av (P:=Tryz.prog) rfl (.tmp 25) (.tmp 28) 40 rfl 9 i0 _ 1 16 Tryz.underlying40 HI.o HZ0.o HZ1.o HZ2.o rfl (by decide) w.heap.size _ 0 [] rfl ?c1 w.heap.size _ _ _ TK rfl ?c2 (by first|exact U1.o|exact U2.o|simp[Value.oneCell']) (by unfold maxLen;omega) (by omega) (by first|omega|(simp;done)|(simp;omega)) ?_);case c1=>exact uz.o
   case c2=>exact rX.o
   intro v2 w2 how2 hgw2 hvw2;have dW:=qS (w2.ownsRow w.heap.size 9 1 v2 k TK) (by have h2:=how2;first|exact h2|(rw[Nat.zero_add]at h2;exact h2));have hb2:Below w.heap.size w w2:=Below.grown uA.o hgw2 (by simp) (fun j hj=>(uz.o.lt j hj).1);have hs2:=hb2.size;clear how2 hgw2 hvw2 uz rX uA;go_wp2_with(at_builtin;refine av (P:=Tryz.prog) rfl (.tmp 29) (.tmp 31) 40 rfl 9 i0 _ 1 16 Tryz.underlying40 HI.o HZ0.o HZ1.o HZ2.o rfl (by decide) w.heap.size _ k TK rfl ?c1 (w2.heap.size+1) _ _ _ [.string ⟨s.toArray⟩] rfl ?c2 (by first|exact U1.o|exact U2.o|simp[Value.oneCell']) (by unfold maxLen;omega) (by omega) (by first|omega|(simp;done)|(simp;omega)) ?_);case c1=>exact World.ownsRow.alloc dW.o _
   case c2=>exact az.new w2 #[.string ⟨s.toArray⟩] _ (by unfold maxLen;omega) rfl
   intro v3 w3 how3 hgw3 hvw3;have ow:=qH how3;have hb3:Below w.heap.size w w3:=Below.grown (hb2.alloc hs2 (.cells #[.string ⟨s.toArray⟩] 9)) hgw3 (by simp;omega) (fun j hj=>(dW.o.lt j hj).1);have hs3:=hb3.size;have om:=qS (az w3 w.heap.size 1 (if c=k then A else A.map (·.add (k*1))) (n-k) (c-k) DK) (by have:=az.from_ (az.below HH.o hb3) k hk;rw[Nat.mul_one,←List.map_drop,←HDK.o]at this;rw[Nat.mul_one];exact this);clear how3 hgw3 hvw3;by_cases hcj:c=k
   ·rw[if_pos hcj]at om;go_wp2_with(at_builtin;refine av (P:=Tryz.prog) rfl (.tmp 33) (.tmp 36) 40 rfl 9 i0 _ 1 16 Tryz.underlying40 HI.o HZ0.o HZ1.o HZ2.o rfl (by decide) w.heap.size _ (k+1) (TK++[.string ⟨s.toArray⟩]) rfl ?c1 w.heap.size _ _ _ DK rfl ?c2 (by first|exact U1.o|exact U2.o|simp[Value.oneCell']) (by unfold maxLen;omega) (by omega) (by first|omega|(simp;done)|(simp;omega)) ?_);case c1=>exact ow.o
    case c2=>first|exact om.o|(have h8:=om.o;simpa[Addr.add_mid,hcj]using h8)
    intro v4 w4 how4 hgw4 hvw4;have hb4:Below w.heap.size w w4:=Below.grown hb3 hgw4 hs3 (fun j hj=>(ow.o.lt j hj).1);have HR:=qS (nD w S (rD ss s) (.returned v4) w4) (by
     have hlen:(ss.take k++s::ss.drop k).length=k+1+(n-k):=by rw[List.length_append,List.length_cons,List.length_take,List.length_drop,HL.o];omega
     have henc:(ss.take k++s::ss.drop k).map encStr=TK++[.string ⟨s.toArray⟩]++DK:=by rw[dx.o,HDK.o];simp[encStr]
     obtain⟨A4,c4,hv4⟩:=ownsRow_form how4;rw[HE.o];refine⟨A4,c4,by rw[hlen];first|exact congrArg _ hv4|(rw[hv4];simp),?_,?_,hb4⟩;·unfold Strs;rw[henc,hlen];have h9:=how4;rw[hv4]at h9;first|exact az.aI h9|(have:=az.aI h9;simpa using this)
     ·rw[hlen];have h9:=how4;rw[hv4]at h9;exact(tu h9).mono fun b h=>.inr h);clear how4 hgw4 hvw4 hb4;go_wp2;go_ret;exact HR.o
   ·rw[if_neg hcj]at om;go_wp2_with(at_builtin;refine av (P:=Tryz.prog) rfl (.tmp 33) (.tmp 36) 40 rfl 9 i0 _ 1 16 Tryz.underlying40 HI.o HZ0.o HZ1.o HZ2.o rfl (by decide) w.heap.size _ (k+1) (TK++[.string ⟨s.toArray⟩]) rfl ?c1 w.heap.size _ _ _ DK rfl ?c2 (by first|exact U1.o|exact U2.o|simp[Value.oneCell']) (by unfold maxLen;omega) (by omega) (by first|omega|(simp;done)|(simp;omega)) ?_);case c1=>exact ow.o
    case c2=>first|exact om.o|(have h8:=om.o;simpa[Addr.add_mid,hcj]using h8)
    intro v4 w4 how4 hgw4 hvw4;have hb4:Below w.heap.size w w4:=Below.grown hb3 hgw4 hs3 (fun j hj=>(ow.o.lt j hj).1);have HR:=qS (nD w S (rD ss s) (.returned v4) w4) (by
     have hlen:(ss.take k++s::ss.drop k).length=k+1+(n-k):=by rw[List.length_append,List.length_cons,List.length_take,List.length_drop,HL.o];omega
     have henc:(ss.take k++s::ss.drop k).map encStr=TK++[.string ⟨s.toArray⟩]++DK:=by rw[dx.o,HDK.o];simp[encStr]
     obtain⟨A4,c4,hv4⟩:=ownsRow_form how4;rw[HE.o];refine⟨A4,c4,by rw[hlen];first|exact congrArg _ hv4|(rw[hv4];simp),?_,?_,hb4⟩;·unfold Strs;rw[henc,hlen];have h9:=how4;rw[hv4]at h9;first|exact az.aI h9|(have:=az.aI h9;simpa using this)
     ·rw[hlen];have h9:=how4;rw[hv4]at h9;exact(tu h9).mono fun b h=>.inr h);clear how4 hgw4 hvw4 hb4;go_wp2;go_ret;exact HR.o
end Go.Proofs.YtbejfgmdkmddnaaGreatDoor
