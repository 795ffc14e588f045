/-
  Layer 8, the document's: Put.
-/
import Derived.Test.YtbejfgmdkmddnaaGreatDoorQRClk1
import Derived.Test.YtbejfgmdkmddnaaGreatDoorQRSort1
import Derived.Deep.MidRow
import Derived.Test.YtbejfgmdkmddnaaGreatDoorQSets
import Derived.Test.YtbejfgmdkmddnaaGreatDoorQRHad3
import Derived.Test.YtbejfgmdkmddnaaGreatDoorQGrLaws
set_option maxRecDepth 100000
set_option maxHeartbeats 16000000
namespace Go.Proofs.YtbejfgmdkmddnaaGreatDoor
open Go.RowKit Go.Maps Go.Sort
theorem rin08_any(w:World)(B:Nat)(A:Option Addr)(n c:Nat)(ss:List (List UInt8))(h:Strs w B A n c ss)(hn:n≤100000)(s:List UInt8):Calls Tryz.prog 176 #[.slice A n c,.string ⟨s.toArray⟩] w fun e w'=>e=.returned (.bool (decide (s∈ss)))∧w=w':=by
 have HH:=qH h;clear h;go_enter Tryz.func176,Tryz.ntmps176;go_wp2;go_loop[5](fun i=> ∃k:Nat,i=.int .i64 k∧k≤n∧Hid (∀j(hj:j<ss.length),j<k→ss[j]≠s))(fun i=>n-(intOf i).toNat);case atStart=>exact⟨0,rfl,Nat.zero_le _,fun j _ h=>by omega⟩
 case round=>
  obtain⟨k,rfl,hk,HK⟩:=hrel;by_cases hkn:k<n
  ·have hkl:k<ss.length:=by rw[HH.out.len];exact hkn
   obtain⟨b,off,rfl,hb,hc⟩:=HH.out.at_ k hkl;have t1:(k:Int)<n:=by omega
   cases he:(ss[k]==s)
   ·have hne:ss[k]≠s:=by simpa using he
    have HN:=qH hne;clear hne;go_wp2;go_round;case rel=>
     exact⟨k+1,by go_num,by omega,fun j hj hlt=>by
      by_cases e:j=k;·subst e;exact HN.out
      ·exact HK.out j hj (by omega)⟩
    case measure=>simp[intOf];omega
   ·have hin:s∈ss:=by
     have:ss[k]=s:=by simpa using he
     rw[←this];exact List.getElem_mem hkl
    have HI:=qH hin;clear hin;go_wp2;go_ret;exact⟨ret_bool (decide_eq_true HI.out).symm,rfl⟩
  ·have hni:s∉ss:=fun hin=>by obtain⟨j,hj,e⟩:=List.getElem_of_mem hin;exact HK.out j hj (by rw[HH.out.len]at hj;omega) e
   have HI:=qH hni;clear hni;go_wp2;go_ret;exact⟨ret_bool (decide_eq_false HI.out).symm,rfl⟩
def twinB(es:List Ev)(e:Ev):Bool:=decide (idOf e∈es.map idOf)
def TwRel(w1:World)(es:List Ev)(e:Ev)(i:Value)(wr:World):Prop:= ∃k q:Nat,i=.int .i64 k∧k≤es.length∧(∀a∈es.take k,idOf a≠idOf e)∧wr=w1.drewN q
theorem rtwin_any(w:World)(A:Option Addr)(n c:Nat)(es:List Ev)(h:Evs w w.heap.size A n c es)(hn:n≤100000)(e:Ev):Calls Tryz.prog 129 #[.slice A n c,e.agg] w (Says (twinB es e) w):=by
 have HH:=qH h;clear h;have HL:=qH HH.out.len;have hb1:Below w.heap.size w (w.alloc (evObj e)):=(Below.refl _ _).alloc (Nat.le_refl _) _;have HE1:=qH (EvIn.new w e);have HH1:=qH (show Evs (w.alloc (evObj e)) w.heap.size A n c es from Cel.below HH.out hb1);have hsw:(w.alloc (evObj e)).heap.size=w.heap.size+1:=by simp
 unfold Ev.agg;go_enter Tryz.func129,Tryz.ntmps129;go_wp2;generalize w.alloc (evObj e)=w1 at*;go_loopw[5](fun i wr=>TwRel w1 es e i wr)(fun i _=>n-(intOf i).toNat);case atStart=>exact⟨0,0,rfl,Nat.zero_le _,fun a ha=>by simp at ha,rfl⟩
 case round=>
  obtain⟨k,q,rfl,hk,hno,hwr⟩:=hrel;have HNO:=qH hno;clear hno;have hbq:Below w.heap.size w wr:=by rw[hwr];exact below_drewN hb1 q
  have HHQ:=qH (show Evs wr w.heap.size A n c es by rw[hwr];exact HH1.out.drewN q);have HEQ:=qH (show EvIn wr w.heap.size e by rw[hwr];exact HE1.out);have HQQ:=qH (show∀m,∃q',wr.drewN m=w1.drewN q' from fun m=>by rw[hwr];exact⟨_,World.drewN_drewN ..⟩);clear hwr;by_cases hkn:k<n
  ·have hkl:k<es.length:=by have:=HL.out;omega
   obtain⟨b,off,rfl,hb,hev⟩:=HHQ.out.ev k hkl;obtain⟨e0,e1,e2,e3,e4,e5,e6,e7⟩:=hev;obtain⟨g0,g1,g2,g3,g4,g5,g6,g7⟩:=HEQ.out;have HTK:=qH (show idOf es[k]≠idOf e→ ∀a∈es.take (k+1),idOf a≠idOf e from fun h a ha=>by
    rw[List.take_add_one,List.getElem?_eq_getElem hkl,Option.toList_some]at ha;rcases List.mem_append.1 ha with ha|ha;·exact HNO.out a ha
    ·rw[List.mem_singleton]at ha;rw[ha];exact h);have HYES:=qH (show idOf es[k]=idOf e→idOf e∈es.map idOf from fun h=>List.mem_map.2 ⟨es[k],List.getElem_mem hkl,h⟩);generalize es[k]=x at*;have t1:(k:Int)<n:=by omega
   clear e2 e3 e4 e5 e6 e7 g2 g3 g4 g5 g6 g7;by_cases hs:x.src=e.src
   ·by_cases hm:x.num=e.num
    ·have HR:=qH (show twinB es e=true from decide_eq_true (HYES.out (by unfold idOf;rw[hs,hm])));have s1:(x.src==e.src)=true:=by simp[hs]
     have s2:(x.num==e.num)=true:=by simp[hm]
     clear hs hm HTK HYES;go_wp2;go_quiet(fail);go_wp2;go_ret;exact⟨ret_bool HR.out.symm,below_drewN hbq _⟩
    ·have HR:=qH (HTK.out (fun he=>hm (by unfold idOf at he;injection he)));have s1:(x.src==e.src)=true:=by simp[hs]
     have s2:(x.num==e.num)=false:=by simp[hm]
     clear hs hm HTK HYES;go_wp2;go_quiet(fail);go_wp2;go_roundw;case rel=>obtain⟨q',hq'⟩:=HQQ.out nq;exact⟨k+1,q',by go_num,by have:=HL.out;omega,HR.out,hq'⟩
     case measure=>simp[intOf];omega
   ·have HR:=qH (HTK.out (fun he=>hs (by unfold idOf at he;injection he)));have s1:(x.src==e.src)=false:=by simp[hs]
    clear hs HTK HYES;go_wp2;go_quiet(fail);go_wp2;go_roundw;case rel=>obtain⟨q',hq'⟩:=HQQ.out nq;exact⟨k+1,q',by go_num,by have:=HL.out;omega,HR.out,hq'⟩
    case measure=>simp[intOf];omega
  ·have t1: ¬(k:Int)<n:=by omega
   have HR:=qH (show twinB es e=false from decide_eq_false fun hm=>by obtain⟨a,ha,he⟩:=List.mem_map.1 hm;exact HNO.out a (by rw[List.take_of_length_le (by have:=HL.out;omega)];exact ha) he);go_wp2;go_ret;exact⟨ret_bool HR.out.symm,hbq⟩
theorem wfilt_take(es:List Ev)(p:Ev→Bool)(k:Nat)(hk:k<es.length):(es.take (k+1)).filter p=(es.take k).filter p++(if p es[k]then[es[k]]else[]):=by rw[List.take_add_one,List.getElem?_eq_getElem hk,Option.toList_some,List.filter_append];simp[List.filter_cons]
theorem rwith08_any(w:World)(p:List UInt8)(A:Option Addr)(n c:Nat)(es:List Ev)(h:Evs w w.heap.size A n c es)(hn:n≤90000):Calls Tryz.prog 182 #[.slice A n c,.string ⟨p.toArray⟩] w (SievePost w es (keepB p)):=by
 have HH:=qH h;clear h;obtain⟨i0,hi,hz0,hz1,hz2⟩:=info_parts ev_info;have HI:=qH hi;have HZ0:=qH hz0;have HZ1:=qH hz1;have HZ2:=qH hz2;clear hi hz0 hz1 hz2;go_enter Tryz.func182,Tryz.ntmps182;go_wp2;go_loopw[5,6](fun v i wr=>SieveRel w n es (keepB p) v i wr)(fun _ i _=>n-(intOf i).toNat);case atStart=>exact⟨0,rfl,Nat.zero_le _,World.ownsRow_lit w #[] 0 (Nat.le_refl _) (by simp[maxLen]) rfl,(Below.refl _ _).alloc (Nat.le_refl _) _⟩
 case round=>
  obtain⟨k,rfl,hk,hown,hbel⟩:=hrel;have HO:=qH hown;clear hown;have hs0:=hbel.size;by_cases hkn:k<n
  ·have hkl:k<es.length:=by rw[HH.out.len];exact hkn
   obtain⟨b,off,rfl,hb,hev⟩:=HH.out.ev k hkl;obtain⟨e0,e1,e2,e3,e4,e5,e6,e7⟩:=hev.below hbel hb;clear hev;have HTK:=qH (wfilt_take es (keepB p) k hkl);have hlen:((es.take k).filter (keepB p)).length≤k:=by have:=List.length_filter_le (keepB p) (es.take k);rw[List.length_take]at this;omega
   generalize es[k]=x at*;have t1:(k:Int)<n:=by omega
   have HKB:=qH (show keepB p x=((x.per !=p)||(x.kind==14))from rfl);have HAPP:Hid (keepB p x=true→(es.take (k+1)).filter (keepB p)=(es.take k).filter (keepB p)++[x]):=fun h=>by have:=HTK.out;rw[h]at this;simpa using this
   have HSKIP:Hid (keepB p x=false→(es.take (k+1)).filter (keepB p)=(es.take k).filter (keepB p)):=fun h=>by have:=HTK.out;rw[h]at this;simpa using this
   generalize(es.take k).filter (keepB p)=out at*;cases hp:(x.per==p)
   ·have b1:(x.per !=p)=true:=by simp[bne,hp]
    have HT:=qH (HAPP.out (by rw[HKB.out,b1];rfl));clear HAPP HSKIP HKB HTK;go_wp2_with(at_builtin;refine wpList_app (P:=Tryz.prog) rfl (.tmp 29) (.tmp 34) 22 rfl 31 i0 _ 8 96 Tryz.underlying22 HI.out HZ0.out HZ1.out HZ2.out rfl (by decide) w.heap.size _ out.length (evCells out) rfl ?c1 (wr.heap.size+1) _ _ _ x.cells rfl ?c2 (cells_one x) ?c4 ?c5 ?c6 ?_);case c1=>exact World.ownsRow.alloc HO.out _
    case c2=>exact Cel.new wr _ _ (by unfold maxLen;omega) rfl
    case c4=>unfold maxLen;omega
    case c5=>omega
    case c6=>first|omega|(simp;omega)
    intro v' w2 hown2 hg2 _;have hb2:Below w.heap.size w w2:=Below.grown (hbel.alloc (by omega) _) hg2 (by simp;omega) (fun k' hk'=>(World.ownsRow.lt HO.out k' hk').1);have HR:=qH (show SieveRel w n es (keepB p) v' (.int .i64 ((k+1:Nat):Int)) w2 from⟨k+1,rfl,by omega,by rw[HT.out];unfold OwnE;rw[evCells_one,List.length_append];exact hown2,hb2⟩);clear hown2 hg2 hb2 e0 e1 e2 e3 e4 e5 e6 e7;go_wp2;go_roundw;case rel=>exact HR.out
    case measure=>simp[intOf];omega
   ·have b1:(x.per !=p)=false:=by simp[bne,hp]
    cases hk14:(x.kind==14)
    ·have HR:=qH (show SieveRel w n es (keepB p) u5 (.int .i64 ((k+1:Nat):Int)) wr from⟨k+1,rfl,by omega,by rw[HSKIP.out (by rw[HKB.out,b1,hk14];rfl)];exact HO.out,hbel⟩);clear HAPP HSKIP HKB HTK;go_wp2;go_roundw;case rel=>exact HR.out
     case measure=>simp[intOf];omega
    ·have HT:=qH (HAPP.out (by rw[HKB.out,b1,hk14];rfl));clear HAPP HSKIP HKB HTK;go_wp2_with(at_builtin;refine wpList_app (P:=Tryz.prog) rfl (.tmp 29) (.tmp 34) 22 rfl 31 i0 _ 8 96 Tryz.underlying22 HI.out HZ0.out HZ1.out HZ2.out rfl (by decide) w.heap.size _ out.length (evCells out) rfl ?c1 (wr.heap.size+1) _ _ _ x.cells rfl ?c2 (cells_one x) ?c4 ?c5 ?c6 ?_);case c1=>exact World.ownsRow.alloc HO.out _
     case c2=>exact Cel.new wr _ _ (by unfold maxLen;omega) rfl
     case c4=>unfold maxLen;omega
     case c5=>omega
     case c6=>first|omega|(simp;omega)
     intro v' w2 hown2 hg2 _;have hb2:Below w.heap.size w w2:=Below.grown (hbel.alloc (by omega) _) hg2 (by simp;omega) (fun k' hk'=>(World.ownsRow.lt HO.out k' hk').1);have HR:=qH (show SieveRel w n es (keepB p) v' (.int .i64 ((k+1:Nat):Int)) w2 from⟨k+1,rfl,by omega,by rw[HT.out];unfold OwnE;rw[evCells_one,List.length_append];exact hown2,hb2⟩);clear hown2 hg2 hb2 e0 e1 e2 e3 e4 e5 e6 e7;go_wp2;go_roundw;case rel=>exact HR.out
     case measure=>simp[intOf];omega
  ·have hkk:es.take k=es:=List.take_of_length_le (by rw[HH.out.len];omega);have HKK:=qH hkk;clear hkk;go_wp2;go_ret;exact⟨u5,rfl,by have:=HO.out;rw[HKK.out]at this;exact this,hbel⟩
def putT(ss:List (List UInt8))(s:List UInt8):List (List UInt8):=if s∈ss then ss else(ss.takeWhile fun x=>Op.bytesLess x s)++s::(ss.dropWhile fun x=>Op.bytesLess x s)
theorem cut_at{ss:List (List UInt8)}{s:List UInt8}(k:Nat)(hk:k≤ss.length)(h1: ∀i(h:i<ss.length),i<k→Op.bytesLess ss[i] s=true)(h2: ∀h:k<ss.length,Op.bytesLess ss[k] s=false):(ss.takeWhile fun x=>Op.bytesLess x s)=ss.take k∧(ss.dropWhile fun x=>Op.bytesLess x s)=ss.drop k:=by
 have e0:ss=ss.take k++ss.drop k:=(List.take_append_drop k ss).symm;have hp: ∀x∈ss.take k,Op.bytesLess x s=true:=fun x hx=>by obtain⟨i,hi,rfl⟩:=List.getElem_of_mem hx;rw[List.length_take]at hi;rw[List.getElem_take];exact h1 i (by omega) (by omega)
 have ht:(ss.drop k).takeWhile (fun x=>Op.bytesLess x s)=[]:=by
  rcases Nat.lt_or_ge k ss.length with hlt|hge;·rw[List.drop_eq_getElem_cons hlt,List.takeWhile_cons_of_neg (by rw[h2 hlt];simp)]
  ·rw[List.drop_of_length_le hge];rfl
 have h3:(ss.takeWhile fun x=>Op.bytesLess x s)=ss.take k:=by
  conv=>lhs;rw[e0]
  rw[List.takeWhile_append_of_pos hp,ht,List.append_nil]
 refine⟨h3,?_⟩;have h4:ss.takeWhile (fun x=>Op.bytesLess x s)++ss.dropWhile (fun x=>Op.bytesLess x s)=ss:=List.takeWhile_append_dropWhile;rw[h3]at h4;have h5:ss.take k++ss.drop k=ss.take k++ss.dropWhile (fun x=>Op.bytesLess x s):=by rw[h4,List.take_append_drop]
 exact(List.append_cancel_left h5).symm
def PutTPost(w:World)(S:Nat→Prop)(ss:List (List UInt8))(e:Ending)(w':World):Prop:= ∃A' c',e=.returned (.slice A' ss.length c')∧Strs w' w'.heap.size A' ss.length c' ss∧VwIn (fun b=>S b∨(w.heap.size≤b∧b<w'.heap.size)) A' ss.length∧Below w.heap.size w w'
theorem encs_one(l:List (List UInt8)): ∀u∈l.map encStr,u.oneCell'=true:=fun u hu=>by obtain⟨x,_,rfl⟩:=List.mem_map.1 hu;rfl
theorem own_in9{w:World}{base n:Nat}{e:TypeId}{size:Nat}{A:Option Addr}{c:Nat}{xs:List Value}(h:w.ownsRow base e size (.slice A n c) n xs):VwIn (fun b=>base≤b∧b<w.heap.size) A n:=by
 intro a ha hn;subst ha;rcases h.2 with⟨_,h'⟩|⟨g,cap,cur,e,hb,hg,_⟩;·omega
 ·injection e with e1;injection e1 with e1;subst e1;exact⟨hb,(Array.getElem?_eq_some_iff.1 hg).1⟩
theorem rput08_any(w:World)(S:Nat→Prop)(A:Option Addr)(n c:Nat)(ss:List (List UInt8))(h:Strs w w.heap.size A n c ss)(hvw:VwIn S A n)(hn:n≤90000)(s:List UInt8):Calls Tryz.prog 181 #[.slice A n c,.string ⟨s.toArray⟩] w (PutTPost w S (putT ss s)):=by
 have HH:=qH h;clear h;have HL:=qH HH.out.len;have HVW:=qH hvw;clear hvw;obtain⟨i0,hi,hz0,hz1,hz2⟩:=info_parts str_info;have HI:=qH hi;have HZ0:=qH hz0;have HZ1:=qH hz1;have HZ2:=qH hz2;clear hi hz0 hz1 hz2;go_enter Tryz.func181,Tryz.ntmps181;go_wp2_with fail;refine(rin08_any w _ A n c ss HH.out (by omega) s).mono ?_;rintro r w1⟨rfl,rfl⟩;by_cases hin:s∈ss
 ·have HR:=qH (show PutTPost w S (putT ss s) (.returned (.slice A n c)) w by
   have e:putT ss s=ss:=by unfold putT;rw[if_pos hin]
   rw[e];have hl:=HL.out;subst hl;exact⟨A,c,rfl,HH.out,HVW.out.mono (fun b hb=>.inl hb),Below.refl _ _⟩);rw[decide_eq_true hin];clear hin;go_wp2;go_ret;exact HR.out
 have HPT:=qH (show putT ss s=(ss.takeWhile fun x=>Op.bytesLess x s)++s::(ss.dropWhile fun x=>Op.bytesLess x s)by unfold putT;rw[if_neg hin]);rw[decide_eq_false hin];clear hin;have hcap:=Cel.cap HH.out;go_wp2;go_loop[5](fun i=> ∃k:Nat,i=.int .i64 k∧k≤n∧Hid (∀j(h:j<ss.length),j<k→Op.bytesLess ss[j] s=true))(fun i=>n-(intOf i).toNat);case atStart=>exact⟨0,rfl,Nat.zero_le _,fun j _ h=>by omega⟩
 case round=>
  obtain⟨k,rfl,hk,HK⟩:=hrel;have HEXIT:Hid ((∀h:k<ss.length,Op.bytesLess ss[k] s=false)→putT ss s=ss.take k++s::ss.drop k):=fun h=>by obtain⟨h1,h2⟩:=cut_at k (by have:=HL.out;omega) HK.out h;rw[HPT.out,h1,h2]
  obtain⟨TK,hTK⟩: ∃TK,TK=(ss.take k).map encStr:=⟨_,rfl⟩;obtain⟨DK,hDK⟩: ∃DK,DK=(ss.drop k).map encStr:=⟨_,rfl⟩;have H1T:=qH (show∀u∈TK,u.oneCell'=true by rw[hTK];exact encs_one _);have H1D:=qH (show∀u∈DK,u.oneCell'=true by rw[hDK];exact encs_one _);have HTK:=qH hTK;have HDK:=qH hDK;clear hTK hDK;by_cases hkn:k<n
  ·have hkl:k<ss.length:=by have:=HL.out;omega
   obtain⟨b,off,rfl,hb,hc⟩:=HH.out.at_ k hkl;have t1:(k:Int)<n:=by omega
   cases hbl:Op.bytesLess ss[k] s
   ·have HE:=qH (HEXIT.out (fun _=>hbl));clear HEXIT;generalize ss[k]=y at*;have hbA:Below w.heap.size w (w.alloc (.cells #[] 9)):=(Below.refl _ _).alloc (Nat.le_refl _) _;have HOA:=qH (show(w.alloc (.cells #[] 9)).ownsRow w.heap.size 9 1 (.slice (some ⟨w.heap.size,0,none⟩) 0 0) 0 []from World.ownsRow_lit w #[] 0 (Nat.le_refl _) (by simp[maxLen]) rfl);have HCA:=qH (show Cel (w.alloc (.cells #[] 9)) w.heap.size 1 (some ⟨b,off,none⟩) k c TK by have:=Cel.upto (Cel.below HH.out hbA) k hk;rw[Nat.mul_one,←List.map_take,←HTK.out]at this;exact this);have hkc:k≤c:=by omega
    have HBA:=qH hbA;clear hbA;go_wp2_with(at_builtin;refine wpList_app (P:=Tryz.prog) rfl (.tmp 25) (.tmp 28) 40 rfl 9 i0 _ 1 16 Tryz.underlying40 HI.out HZ0.out HZ1.out HZ2.out rfl (by decide) w.heap.size _ 0 [] rfl ?c1 w.heap.size _ _ _ TK rfl ?c2 (by first|exact H1T.out|exact H1D.out|simp[Value.oneCell']) (by unfold maxLen;omega) (by omega) (by first|omega|(simp;done)|(simp;omega)) ?_);case c1=>exact HOA.out
    case c2=>exact HCA.out
    intro v2 w2 how2 hgw2 hvw2;have HO2:=qH (show w2.ownsRow w.heap.size 9 1 v2 k TK by have h2:=how2;first|exact h2|(rw[Nat.zero_add]at h2;exact h2));have hb2:Below w.heap.size w w2:=Below.grown HBA.out hgw2 (by simp) (fun j hj=>(HOA.out.lt j hj).1);have hs2:=hb2.size;clear how2 hgw2 hvw2 HOA HCA HBA;go_wp2_with(at_builtin;refine wpList_app (P:=Tryz.prog) rfl (.tmp 29) (.tmp 31) 40 rfl 9 i0 _ 1 16 Tryz.underlying40 HI.out HZ0.out HZ1.out HZ2.out rfl (by decide) w.heap.size _ k TK rfl ?c1 (w2.heap.size+1) _ _ _ [.string ⟨s.toArray⟩] rfl ?c2 (by first|exact H1T.out|exact H1D.out|simp[Value.oneCell']) (by unfold maxLen;omega) (by omega) (by first|omega|(simp;done)|(simp;omega)) ?_);case c1=>exact World.ownsRow.alloc HO2.out _
    case c2=>exact Cel.new w2 #[.string ⟨s.toArray⟩] _ (by unfold maxLen;omega) rfl
    intro v3 w3 how3 hgw3 hvw3;have HO3:=qH how3;have hb3:Below w.heap.size w w3:=Below.grown (hb2.alloc hs2 (.cells #[.string ⟨s.toArray⟩] 9)) hgw3 (by simp;omega) (fun j hj=>(HO2.out.lt j hj).1);have hs3:=hb3.size;have HC3:=qH (show Cel w3 w.heap.size 1 (if c=k then(some ⟨b,off,none⟩)else Option.map (fun x:Addr=>x.add (k*1)) (some ⟨b,off,none⟩)) (n-k) (c-k) DK by have:=Cel.from_ (Cel.below HH.out hb3) k hk;rw[Nat.mul_one,←List.map_drop,←HDK.out]at this;rw[Nat.mul_one];exact this);clear how3 hgw3 hvw3;by_cases hcj:c=k
    ·rw[if_pos hcj]at HC3;go_wp2_with(at_builtin;refine wpList_app (P:=Tryz.prog) rfl (.tmp 33) (.tmp 36) 40 rfl 9 i0 _ 1 16 Tryz.underlying40 HI.out HZ0.out HZ1.out HZ2.out rfl (by decide) w.heap.size _ (k+1) (TK++[.string ⟨s.toArray⟩]) rfl ?c1 w.heap.size _ _ _ DK rfl ?c2 (by first|exact H1T.out|exact H1D.out|simp[Value.oneCell']) (by unfold maxLen;omega) (by omega) (by first|omega|(simp;done)|(simp;omega)) ?_);case c1=>exact HO3.out
     case c2=>first|exact HC3.out|(have h8:=HC3.out;simpa[Addr.add_mid,hcj]using h8)
     intro v4 w4 how4 hgw4 hvw4;have hb4:Below w.heap.size w w4:=Below.grown hb3 hgw4 hs3 (fun j hj=>(HO3.out.lt j hj).1);have HR:=qH (show PutTPost w S (putT ss s) (.returned v4) w4 by
      have hlen:(ss.take k++s::ss.drop k).length=k+1+(n-k):=by rw[List.length_append,List.length_cons,List.length_take,List.length_drop,HL.out];omega
      have henc:(ss.take k++s::ss.drop k).map encStr=TK++[.string ⟨s.toArray⟩]++DK:=by rw[HTK.out,HDK.out];simp[encStr]
      obtain⟨A4,c4,hv4⟩:=ownsRow_form how4;rw[HE.out];refine⟨A4,c4,by rw[hlen];first|exact congrArg _ hv4|(rw[hv4];simp),?_,?_,hb4⟩;·unfold Strs;rw[henc,hlen];have h9:=how4;rw[hv4]at h9;first|exact Cel.of_own h9|(have:=Cel.of_own h9;simpa using this)
      ·rw[hlen];have h9:=how4;rw[hv4]at h9;exact(own_in9 h9).mono fun b h=>.inr h);clear how4 hgw4 hvw4 hb4;go_wp2;go_ret;exact HR.out
    ·rw[if_neg hcj]at HC3;go_wp2_with(at_builtin;refine wpList_app (P:=Tryz.prog) rfl (.tmp 33) (.tmp 36) 40 rfl 9 i0 _ 1 16 Tryz.underlying40 HI.out HZ0.out HZ1.out HZ2.out rfl (by decide) w.heap.size _ (k+1) (TK++[.string ⟨s.toArray⟩]) rfl ?c1 w.heap.size _ _ _ DK rfl ?c2 (by first|exact H1T.out|exact H1D.out|simp[Value.oneCell']) (by unfold maxLen;omega) (by omega) (by first|omega|(simp;done)|(simp;omega)) ?_);case c1=>exact HO3.out
     case c2=>first|exact HC3.out|(have h8:=HC3.out;simpa[Addr.add_mid,hcj]using h8)
     intro v4 w4 how4 hgw4 hvw4;have hb4:Below w.heap.size w w4:=Below.grown hb3 hgw4 hs3 (fun j hj=>(HO3.out.lt j hj).1);have HR:=qH (show PutTPost w S (putT ss s) (.returned v4) w4 by
      have hlen:(ss.take k++s::ss.drop k).length=k+1+(n-k):=by rw[List.length_append,List.length_cons,List.length_take,List.length_drop,HL.out];omega
      have henc:(ss.take k++s::ss.drop k).map encStr=TK++[.string ⟨s.toArray⟩]++DK:=by rw[HTK.out,HDK.out];simp[encStr]
      obtain⟨A4,c4,hv4⟩:=ownsRow_form how4;rw[HE.out];refine⟨A4,c4,by rw[hlen];first|exact congrArg _ hv4|(rw[hv4];simp),?_,?_,hb4⟩;·unfold Strs;rw[henc,hlen];have h9:=how4;rw[hv4]at h9;first|exact Cel.of_own h9|(have:=Cel.of_own h9;simpa using this)
      ·rw[hlen];have h9:=how4;rw[hv4]at h9;exact(own_in9 h9).mono fun b h=>.inr h);clear how4 hgw4 hvw4 hb4;go_wp2;go_ret;exact HR.out
   ·have HN:=qH (show∀j(h:j<ss.length),j<k+1→Op.bytesLess ss[j] s=true from fun j hj hlt=>by
     by_cases e:j=k;·subst e;exact hbl
     ·exact HK.out j hj (by omega));clear HEXIT;generalize ss[k]=y at*;go_wp2;go_round;case rel=>exact⟨k+1,by go_num,by omega,HN.out⟩
    case measure=>simp[intOf];omega
  ·have t1: ¬(k:Int)<n:=by omega
   have HE:=qH (HEXIT.out (fun h=>by have:=HL.out;omega));clear HEXIT;have hbA:Below w.heap.size w (w.alloc (.cells #[] 9)):=(Below.refl _ _).alloc (Nat.le_refl _) _;have HOA:=qH (show(w.alloc (.cells #[] 9)).ownsRow w.heap.size 9 1 (.slice (some ⟨w.heap.size,0,none⟩) 0 0) 0 []from World.ownsRow_lit w #[] 0 (Nat.le_refl _) (by simp[maxLen]) rfl);have HCA:=qH (show Cel (w.alloc (.cells #[] 9)) w.heap.size 1 A k c TK by have:=Cel.upto (Cel.below HH.out hbA) k hk;rw[Nat.mul_one,←List.map_take,←HTK.out]at this;exact this);have hkc:k≤c:=by omega
   have HBA:=qH hbA;clear hbA;go_wp2_with(at_builtin;refine wpList_app (P:=Tryz.prog) rfl (.tmp 25) (.tmp 28) 40 rfl 9 i0 _ 1 16 Tryz.underlying40 HI.out HZ0.out HZ1.out HZ2.out rfl (by decide) w.heap.size _ 0 [] rfl ?c1 w.heap.size _ _ _ TK rfl ?c2 (by first|exact H1T.out|exact H1D.out|simp[Value.oneCell']) (by unfold maxLen;omega) (by omega) (by first|omega|(simp;done)|(simp;omega)) ?_);case c1=>exact HOA.out
   case c2=>exact HCA.out
   intro v2 w2 how2 hgw2 hvw2;have HO2:=qH (show w2.ownsRow w.heap.size 9 1 v2 k TK by have h2:=how2;first|exact h2|(rw[Nat.zero_add]at h2;exact h2));have hb2:Below w.heap.size w w2:=Below.grown HBA.out hgw2 (by simp) (fun j hj=>(HOA.out.lt j hj).1);have hs2:=hb2.size;clear how2 hgw2 hvw2 HOA HCA HBA;go_wp2_with(at_builtin;refine wpList_app (P:=Tryz.prog) rfl (.tmp 29) (.tmp 31) 40 rfl 9 i0 _ 1 16 Tryz.underlying40 HI.out HZ0.out HZ1.out HZ2.out rfl (by decide) w.heap.size _ k TK rfl ?c1 (w2.heap.size+1) _ _ _ [.string ⟨s.toArray⟩] rfl ?c2 (by first|exact H1T.out|exact H1D.out|simp[Value.oneCell']) (by unfold maxLen;omega) (by omega) (by first|omega|(simp;done)|(simp;omega)) ?_);case c1=>exact World.ownsRow.alloc HO2.out _
   case c2=>exact Cel.new w2 #[.string ⟨s.toArray⟩] _ (by unfold maxLen;omega) rfl
   intro v3 w3 how3 hgw3 hvw3;have HO3:=qH how3;have hb3:Below w.heap.size w w3:=Below.grown (hb2.alloc hs2 (.cells #[.string ⟨s.toArray⟩] 9)) hgw3 (by simp;omega) (fun j hj=>(HO2.out.lt j hj).1);have hs3:=hb3.size;have HC3:=qH (show Cel w3 w.heap.size 1 (if c=k then A else A.map (·.add (k*1))) (n-k) (c-k) DK by have:=Cel.from_ (Cel.below HH.out hb3) k hk;rw[Nat.mul_one,←List.map_drop,←HDK.out]at this;rw[Nat.mul_one];exact this);clear how3 hgw3 hvw3;by_cases hcj:c=k
   ·rw[if_pos hcj]at HC3;go_wp2_with(at_builtin;refine wpList_app (P:=Tryz.prog) rfl (.tmp 33) (.tmp 36) 40 rfl 9 i0 _ 1 16 Tryz.underlying40 HI.out HZ0.out HZ1.out HZ2.out rfl (by decide) w.heap.size _ (k+1) (TK++[.string ⟨s.toArray⟩]) rfl ?c1 w.heap.size _ _ _ DK rfl ?c2 (by first|exact H1T.out|exact H1D.out|simp[Value.oneCell']) (by unfold maxLen;omega) (by omega) (by first|omega|(simp;done)|(simp;omega)) ?_);case c1=>exact HO3.out
    case c2=>first|exact HC3.out|(have h8:=HC3.out;simpa[Addr.add_mid,hcj]using h8)
    intro v4 w4 how4 hgw4 hvw4;have hb4:Below w.heap.size w w4:=Below.grown hb3 hgw4 hs3 (fun j hj=>(HO3.out.lt j hj).1);have HR:=qH (show PutTPost w S (putT ss s) (.returned v4) w4 by
     have hlen:(ss.take k++s::ss.drop k).length=k+1+(n-k):=by rw[List.length_append,List.length_cons,List.length_take,List.length_drop,HL.out];omega
     have henc:(ss.take k++s::ss.drop k).map encStr=TK++[.string ⟨s.toArray⟩]++DK:=by rw[HTK.out,HDK.out];simp[encStr]
     obtain⟨A4,c4,hv4⟩:=ownsRow_form how4;rw[HE.out];refine⟨A4,c4,by rw[hlen];first|exact congrArg _ hv4|(rw[hv4];simp),?_,?_,hb4⟩;·unfold Strs;rw[henc,hlen];have h9:=how4;rw[hv4]at h9;first|exact Cel.of_own h9|(have:=Cel.of_own h9;simpa using this)
     ·rw[hlen];have h9:=how4;rw[hv4]at h9;exact(own_in9 h9).mono fun b h=>.inr h);clear how4 hgw4 hvw4 hb4;go_wp2;go_ret;exact HR.out
   ·rw[if_neg hcj]at HC3;go_wp2_with(at_builtin;refine wpList_app (P:=Tryz.prog) rfl (.tmp 33) (.tmp 36) 40 rfl 9 i0 _ 1 16 Tryz.underlying40 HI.out HZ0.out HZ1.out HZ2.out rfl (by decide) w.heap.size _ (k+1) (TK++[.string ⟨s.toArray⟩]) rfl ?c1 w.heap.size _ _ _ DK rfl ?c2 (by first|exact H1T.out|exact H1D.out|simp[Value.oneCell']) (by unfold maxLen;omega) (by omega) (by first|omega|(simp;done)|(simp;omega)) ?_);case c1=>exact HO3.out
    case c2=>first|exact HC3.out|(have h8:=HC3.out;simpa[Addr.add_mid,hcj]using h8)
    intro v4 w4 how4 hgw4 hvw4;have hb4:Below w.heap.size w w4:=Below.grown hb3 hgw4 hs3 (fun j hj=>(HO3.out.lt j hj).1);have HR:=qH (show PutTPost w S (putT ss s) (.returned v4) w4 by
     have hlen:(ss.take k++s::ss.drop k).length=k+1+(n-k):=by rw[List.length_append,List.length_cons,List.length_take,List.length_drop,HL.out];omega
     have henc:(ss.take k++s::ss.drop k).map encStr=TK++[.string ⟨s.toArray⟩]++DK:=by rw[HTK.out,HDK.out];simp[encStr]
     obtain⟨A4,c4,hv4⟩:=ownsRow_form how4;rw[HE.out];refine⟨A4,c4,by rw[hlen];first|exact congrArg _ hv4|(rw[hv4];simp),?_,?_,hb4⟩;·unfold Strs;rw[henc,hlen];have h9:=how4;rw[hv4]at h9;first|exact Cel.of_own h9|(have:=Cel.of_own h9;simpa using this)
     ·rw[hlen];have h9:=how4;rw[hv4]at h9;exact(own_in9 h9).mono fun b h=>.inr h);clear how4 hgw4 hvw4 hb4;go_wp2;go_ret;exact HR.out
end Go.Proofs.YtbejfgmdkmddnaaGreatDoor
