/-
  slices.symMergeCmpFunc at events: one element behind.
-/
import Derived.Test.YtcmmclliabhnjaaGreatDoorWStSwap
import Derived.Test.YtcmmclliabhnjaaGreatDoorWStIns
set_option maxRecDepth 100000
set_option maxHeartbeats 16000000
namespace Go.Proofs.YtcmmclliabhnjaaGreatDoor
open Go.RowKit Go.Maps Go.Sort
def RotRel(w0:World)(base g n cap m:Nat)(T:List Ev)(iv jv:Value)(wr:World):Prop:= ∃(i j:Nat)(X U V Y:List Ev),iv=.int .i64 i∧jv=.int .i64 j∧U.length=i∧V.length=j∧0<i∧0<j∧X.length+i=m∧X++V++U++Y=T∧Srt w0 base g n cap (X++U++V++Y) wr
theorem rotate_any(w0 w:World)(base g n cap:Nat)(X U V Y:List Ev)(h:Srt w0 base g n cap (X++U++V++Y) w)(hU:0<U.length)(hV:0<V.length)(hn:n≤1000000)(a m b:Nat)(ha:X.length=a)(hm:a+U.length=m)(hb:m+V.length=b)(cmp:Value):Calls Tryz.prog 219 #[.slice (some ⟨g,0,none⟩) n cap,.int .i64 a,.int .i64 m,.int .i64 b,cmp] w (SrwPost w0 base g n cap (X++V++U++Y)):=by
 obtain⟨T,hT⟩: ∃T,T=X++V++U++Y:=⟨_,rfl⟩;rw[←hT];have hlen:n=X.length+U.length+V.length+Y.length:=by have:=h.len;simp at this;omega
 have hbn:b≤n:=by omega
 have hab:a≤m:=by omega
 have hmb:m≤b:=by omega
 have HH:=qH (show RotRel w0 base g n cap m T (.int .i64 ((m:Int)-a)) (.int .i64 ((b:Int)-m)) w from⟨U.length,V.length,X,U,V,Y,by congr 1;omega,by congr 1;omega,rfl,rfl,hU,hV,by omega,hT.symm,h⟩);clear h hlen ha hm hb hT hU hV;go_enter Tryz.func219,Tryz.ntmps219;go_wp2;go_loopw[10,11](fun i j wr=>RotRel w0 base g n cap m T i j wr)(fun i j _=>(intOf i).toNat+(intOf j).toNat);case atStart=>exact HH.out
 case round=>
  obtain⟨i,j,X',U',V',Y',rfl,rfl,hU,hV,hi0,hj0,hXm,hT,hS⟩:=hrel;have HS:=qH hS;have HT:=qH hT;have HU:=qH hU;have HV:=qH hV;have hl:X'.length+i+j+Y'.length=n:=by have:=hS.len;simp at this;omega
  obtain⟨p,hp⟩: ∃p,p=X'.length:=⟨_,rfl⟩;have HP:=qH hp;have hpm:p+i=m:=by omega
  have hpj:p+i+j≤n:=by omega
  clear hS hT hU hV hl hp hXm HH;by_cases hij:i=j
  ·subst hij;have HC:=qH (swapRange_any w0 wr base g n cap X' U' [] V' Y' (by simpa using HS.out) (by rw[HU.out,HV.out]) hn p m i HP.out.symm (by have:=HU.out;have:=HP.out;simp;omega) HU.out cmp);have s1:(m:Int)-i=p:=by omega
   have t1:((i:Int)!=(i:Int))=false:=by simp
   go_wp2_with fail;with_reducible refine HC.out.mono ?_
   rintro r w2⟨rfl,hS2⟩;have HF:=qH (show Srt w0 base g n cap T w2 by rw[←HT.out];simpa using hS2);clear hS2;go_wp2;go_end0;exact⟨rfl,HF.out⟩
  ·by_cases hgt:j<i
   ·have HC:=qH (swapRange_any w0 wr base g n cap X' (U'.take j) (U'.drop j) V' Y' (by simpa using HS.out) (by rw[List.length_take,HU.out,HV.out];omega) hn p m j HP.out.symm (by have:=HU.out;have:=HP.out;simp;omega) (by rw[List.length_take,HU.out];omega) cmp);have s1:(m:Int)-i=p:=by omega
    have t1: ¬(i:Int)=j:=by omega
    have t2:(j:Int)<i:=by omega
    go_wp2_with fail;with_reducible refine HC.out.mono ?_
    rintro r w2⟨rfl,hS2⟩;have HR:=qH (show RotRel w0 base g n cap m T (.int .i64 ((i:Int)-j)) (.int .i64 (j:Int)) w2 from⟨i-j,j,X'++V',U'.drop j,U'.take j,Y',by congr 1;omega,rfl,by rw[List.length_drop,HU.out],by rw[List.length_take,HU.out];omega,by omega,hj0,by have:=HP.out;have:=HV.out;rw[List.length_append];omega,by rw[←HT.out];have:U'.take j++U'.drop j=U':=List.take_append_drop j U';calc X'++V'++U'.take j++U'.drop j++Y'=X'++V'++(U'.take j++U'.drop j)++Y':=by simp only[List.append_assoc]
      _=_:=by rw[this],hS2⟩);clear hS2 s1;go_wp2;go_roundw;case rel=>exact HR.out
    case measure=>simp[intOf];omega
   ·have HC:=qH (swapRange_any w0 wr base g n cap X' U' (V'.take (j-i)) (V'.drop (j-i)) Y' (by simpa using HS.out) (by rw[List.length_drop,HU.out,HV.out];omega) hn p (m+j-i) i HP.out.symm (by have:=HU.out;have:=HP.out;have:=HV.out;simp;omega) HU.out cmp);obtain⟨q,hq⟩: ∃q,q=m+j-i:=⟨_,rfl⟩;rw[←hq]at HC;have s1:(m:Int)-i=p:=by omega
    have s2:(m:Int)+j-i=q:=by omega
    have t1: ¬(i:Int)=j:=by omega
    have t2: ¬(j:Int)<i:=by omega
    clear hq;go_wp2_with fail;with_reducible refine HC.out.mono ?_
    rintro r w2⟨rfl,hS2⟩;have HR:=qH (show RotRel w0 base g n cap m T (.int .i64 (i:Int)) (.int .i64 ((j:Int)-i)) w2 from⟨i,j-i,X',V'.drop (j-i),V'.take (j-i),U'++Y',rfl,by congr 1;omega,by rw[List.length_drop,HV.out];omega,by rw[List.length_take,HV.out];omega,hi0,by omega,by have:=HP.out;omega,by rw[←HT.out];have:V'.take (j-i)++V'.drop (j-i)=V':=List.take_append_drop (j-i) V';calc X'++V'.take (j-i)++V'.drop (j-i)++(U'++Y')=X'++(V'.take (j-i)++V'.drop (j-i))++U'++Y':=by simp only[List.append_assoc]
      _=_:=by rw[this],by simpa only[List.append_assoc]using hS2⟩);clear hS2 s1 s2;go_wp2;go_roundw;case rel=>exact HR.out
    case measure=>simp[intOf];omega
def MrgPost(w0:World)(base g n cap:Nat)(X L Y:List Ev)(e:Ending)(w':World):Prop:=e=.returned (.tuple #[])∧ ∃M,SortedE M∧M.Perm L∧Srt w0 base g n cap (X++M++Y) w'
def BsRel(w0:World)(base g n cap:Nat)(LL B:List Ev)(lo hi:Ev→Prop)(m:Nat)(iv jv:Value)(wr:World):Prop:= ∃p q:Nat,iv=.int .i64 ((m+p:Nat):Int)∧jv=.int .i64 ((m+q:Nat):Int)∧p≤q∧q≤B.length∧(∀z,0<p→B[p-1]?=some z→lo z)∧(∀z,B[q]?=some z→hi z)∧Srt w0 base g n cap LL wr
def MvRel(w0:World)(base g n cap a:Nat)(X B1 R:List Ev)(x:Ev)(kv:Value)(wr:World):Prop:= ∃t:Nat,kv=.int .i64 ((a+t:Nat):Int)∧t≤B1.length∧Srt w0 base g n cap ((X++B1.take t)++x::(B1.drop t++R)) wr
theorem bs_lo{B:List Ev}{p:Nat}{lo:Ev→Prop}(hB:SortedE B)(hp:p≤B.length)(h: ∀z,0<p→B[p-1]?=some z→lo z)(hm: ∀y z,LeE y z→lo z→lo y): ∀y∈B.take p,lo y:=fun y hy=>by
 obtain⟨i,hi,rfl⟩:=List.getElem_of_mem hy;rw[List.length_take]at hi;rw[List.getElem_take];have h1:p-1<B.length:=by omega
 exact hm _ B[p-1] (sorted_at hB (by omega) h1) (h _ (by omega) (List.getElem?_eq_getElem h1))
theorem bs_hi{B:List Ev}{p:Nat}{hi:Ev→Prop}(hB:SortedE B)(h: ∀z,B[p]?=some z→hi z)(hm: ∀y z,LeE y z→hi y→hi z): ∀y∈B.drop p,hi y:=fun y hy=>by
 obtain⟨i,hi',rfl⟩:=List.getElem_of_mem hy;rw[List.length_drop]at hi';rw[List.getElem_drop];have h1:p<B.length:=by omega
 exact hm B[p] _ (sorted_at hB (by omega) (by omega)) (h _ (List.getElem?_eq_getElem h1))
theorem sym1_any(w0 w:World)(base g n cap:Nat)(X B Y:List Ev)(x:Ev)(h:Srt w0 base g n cap (X++x::(B++Y)) w)(hB:SortedE B)(hB0:0<B.length)(hn:n≤1000000)(a m b:Nat)(ha:X.length=a)(hm:a+1=m)(hb:m+B.length=b):Calls Tryz.prog 177 #[.slice (some ⟨g,0,none⟩) n cap,.int .i64 a,.int .i64 m,.int .i64 b,cmpV] w (MrgPost w0 base g n cap X (x::B) Y):=by
 have hlen:n=X.length+1+B.length+Y.length:=by have:=h.len;simp at this;omega
 have hbn:b≤n:=by omega
 have hmb:m<b:=by omega
 have ham:a<m:=by omega
 have HH:=qH (show BsRel w0 base g n cap (X++x::(B++Y)) B (fun z=>LtE z x) (fun z=> ¬LtE z x) m (.int .i64 (m:Int)) (.int .i64 (b:Int)) w from⟨0,B.length,rfl,by rw[hb],Nat.zero_le _,Nat.le_refl _,(fun z h0=>by omega),(fun z hz=>by rw[List.getElem?_eq_none (Nat.le_refl _)]at hz;cases hz),h⟩);have HBS:=qH hB;have HA:=qH ha;have HM:=qH hm;have HB:=qH hb;have s1:(m:Int)-a=1:=by omega
 clear h hB hlen ha hm hb;go_enter Tryz.func177,Tryz.ntmps177;go_wp2;clear s1;go_loopw[10,11](fun i j wr=>BsRel w0 base g n cap (X++x::(B++Y)) B (fun z=>LtE z x) (fun z=> ¬LtE z x) m i j wr)(fun i j _=>(intOf j-intOf i).toNat);case atStart=>exact HH.out
 case round=>
  obtain⟨p,q,rfl,rfl,hpq,hqB,hlo,hhi,hS⟩:=hrel;have HS:=qH hS;have HLO:=qH hlo;have HHI:=qH hhi;obtain⟨i,hi⟩: ∃i,i=m+p:=⟨_,rfl⟩;obtain⟨j,hj⟩: ∃j,j=m+q:=⟨_,rfl⟩;rw[←hi,←hj];have HI:=qH hi;have HJ:=qH hj;have hjb:j≤b:=by have:=HB.out;omega
  have hmi:m≤i:=by omega
  have hij':i≤j:=by omega
  clear hlo hhi hS HH;by_cases hlt:p<q
  ·have t1:(i:Int)<j:=by omega
   have hijn:i<j:=by omega
   obtain⟨hh,hhh⟩: ∃hh,hh=(i+j)/2:=⟨_,rfl⟩;obtain⟨u,hu⟩: ∃u,u=hh-m:=⟨_,rfl⟩;have hmu:m+u=hh:=by omega
   have huB:u<B.length:=by omega
   have hpu:p≤u:=by omega
   have huq:u<q:=by omega
   have hhn:(hh:Int)<n:=by omega
   have han:(a:Int)<n:=by omega
   have hxa:X.length=a:=HA.out;have HU:=qH hmu;have HEV1:=qH (show∀W,Srt w0 base g n cap (X++x::(B++Y)) W→EvAt W g (hh*8) B[u]from fun W hW=>hW.at_ (P:=X++x::B.take u) (R:=B.drop (u+1)++Y) (by
    have h1:B=B.take u++B[u]::B.drop (u+1):=by rw[←List.drop_eq_getElem_cons huB,List.take_append_drop]
    conv=>lhs;rw[h1]
    simp only[List.append_assoc,List.cons_append]) (by have:=HM.out;simp;omega));have HEV2:=qH (show∀W,Srt w0 base g n cap (X++x::(B++Y)) W→EvAt W g (a*8) x from fun W hW=>hW.at_ rfl hxa);have HR1:=qH (show∀W,LtE B[u] x→Srt w0 base g n cap (X++x::(B++Y)) W→BsRel w0 base g n cap (X++x::(B++Y)) B (fun z=>LtE z x) (fun z=> ¬LtE z x) m (.int .i64 ((hh:Int)+1)) (.int .i64 (j:Int)) W from fun W hl hW=>⟨u+1,q,by have:=HU.out;congr 1;omega,by rw[HJ.out],by omega,hqB,fun z _ hz=>by rw[Nat.add_sub_cancel,List.getElem?_eq_getElem huB]at hz;injection hz with hz;rw[←hz];exact hl,HHI.out,hW⟩);have HR2:=qH (show∀W,¬LtE B[u] x→Srt w0 base g n cap (X++x::(B++Y)) W→BsRel w0 base g n cap (X++x::(B++Y)) B (fun z=>LtE z x) (fun z=> ¬LtE z x) m (.int .i64 (i:Int)) (.int .i64 (hh:Int)) W from fun W hl hW=>⟨p,u,by rw[HI.out],by rw[HU.out],hpu,by omega,HLO.out,fun z hz=>by rw[List.getElem?_eq_getElem huB]at hz;injection hz with hz;rw[←hz];exact hl,hW⟩);have s0:((i:Int)+(j:Int))/2=(hh:Int):=by omega
   have hih:i≤hh:=by omega
   have hhj:hh<j:=by omega
   generalize B[u]=y at*;generalize X++x::(B++Y)=LL at*;clear hi hj hhh hu hmu huB hxa;have HCM:=qH (show∀W,Calls Tryz.prog 61 #[.agg #[.string ⟨y.src.toArray⟩,.int .i64 y.num,.int .i64 y.at_,.int .i64 y.kind,.string ⟨y.per.toArray⟩,.string ⟨y.item.toArray⟩,.int .i64 y.val,.string ⟨y.text.toArray⟩],.agg #[.string ⟨x.src.toArray⟩,.int .i64 x.num,.int .i64 x.at_,.int .i64 x.kind,.string ⟨x.per.toArray⟩,.string ⟨x.item.toArray⟩,.int .i64 x.val,.string ⟨x.text.toArray⟩]] W fun e w'=>e=.returned (.int .i64 (cmpE y x))∧Below W.heap.size W w' from fun W=>compare_any W y x);by_cases hl:cmpE y x<0
   ·have HLT:=qH (cmpE_neg.1 hl);go_wp2;clear s0;have HSS:=qH (show∀W:World,Srt w0 base g n cap LL W→(W.cell? ⟨g,hh*8,none⟩=some (.string ⟨y.src.toArray⟩)∧W.cell? ⟨g,hh*8+1,none⟩=some (.int .i64 y.num)∧W.cell? ⟨g,hh*8+2,none⟩=some (.int .i64 y.at_)∧W.cell? ⟨g,hh*8+3,none⟩=some (.int .i64 y.kind)∧W.cell? ⟨g,hh*8+4,none⟩=some (.string ⟨y.per.toArray⟩)∧W.cell? ⟨g,hh*8+5,none⟩=some (.string ⟨y.item.toArray⟩)∧W.cell? ⟨g,hh*8+6,none⟩=some (.int .i64 y.val)∧W.cell? ⟨g,hh*8+7,none⟩=some (.string ⟨y.text.toArray⟩)∧W.cell? ⟨g,a*8,none⟩=some (.string ⟨x.src.toArray⟩)∧W.cell? ⟨g,a*8+1,none⟩=some (.int .i64 x.num)∧W.cell? ⟨g,a*8+2,none⟩=some (.int .i64 x.at_)∧W.cell? ⟨g,a*8+3,none⟩=some (.int .i64 x.kind)∧W.cell? ⟨g,a*8+4,none⟩=some (.string ⟨x.per.toArray⟩)∧W.cell? ⟨g,a*8+5,none⟩=some (.string ⟨x.item.toArray⟩)∧W.cell? ⟨g,a*8+6,none⟩=some (.int .i64 x.val)∧W.cell? ⟨g,a*8+7,none⟩=some (.string ⟨x.text.toArray⟩))from fun W hW=>by obtain⟨a0,a1,a2,a3,a4,a5,a6,a7⟩:=HEV1.out W hW;obtain⟨b0,b1,b2,b3,b4,b5,b6,b7⟩:=HEV2.out W hW;exact⟨a0,a1,a2,a3,a4,a5,a6,a7,b0,b1,b2,b3,b4,b5,b6,b7⟩);have HX:=qH (HS.out.drewN 1);have hS:=HSS.out _ HS.out;go_region_held3(fun W=>W.cell? ⟨g,hh*8,none⟩=some (.string ⟨y.src.toArray⟩)∧W.cell? ⟨g,hh*8+1,none⟩=some (.int .i64 y.num)∧W.cell? ⟨g,hh*8+2,none⟩=some (.int .i64 y.at_)∧W.cell? ⟨g,hh*8+3,none⟩=some (.int .i64 y.kind)∧W.cell? ⟨g,hh*8+4,none⟩=some (.string ⟨y.per.toArray⟩)∧W.cell? ⟨g,hh*8+5,none⟩=some (.string ⟨y.item.toArray⟩)∧W.cell? ⟨g,hh*8+6,none⟩=some (.int .i64 y.val)∧W.cell? ⟨g,hh*8+7,none⟩=some (.string ⟨y.text.toArray⟩)∧W.cell? ⟨g,a*8,none⟩=some (.string ⟨x.src.toArray⟩)∧W.cell? ⟨g,a*8+1,none⟩=some (.int .i64 x.num)∧W.cell? ⟨g,a*8+2,none⟩=some (.int .i64 x.at_)∧W.cell? ⟨g,a*8+3,none⟩=some (.int .i64 x.kind)∧W.cell? ⟨g,a*8+4,none⟩=some (.string ⟨x.per.toArray⟩)∧W.cell? ⟨g,a*8+5,none⟩=some (.string ⟨x.item.toArray⟩)∧W.cell? ⟨g,a*8+6,none⟩=some (.int .i64 x.val)∧W.cell? ⟨g,a*8+7,none⟩=some (.string ⟨x.text.toArray⟩))(first|assumption|exact HSS.out _ HX.out|go_keep)((go_at_call 61;(with_reducible refine(HCM.out _).mono ?_);rintro r9 w9⟨rfl,hb9⟩;have HX2:=qH (HX.out.up hb9);clear HX;have HX:=HX2;clear HX2;(try clear hS);have hS:=HSS.out _ HX.out;clear hb9));clear hS HSS HCM HEV1 HEV2;have HRR:=qH (HR1.out _ HLT.out HX.out);clear HX;go_wp2;go_roundw;case rel=>exact HRR.out
    case measure=>simp[intOf];omega
   ·have HLT:=qH (show¬LtE y x from fun h=>hl (cmpE_neg.2 h));go_wp2;clear s0;have HSS:=qH (show∀W:World,Srt w0 base g n cap LL W→(W.cell? ⟨g,hh*8,none⟩=some (.string ⟨y.src.toArray⟩)∧W.cell? ⟨g,hh*8+1,none⟩=some (.int .i64 y.num)∧W.cell? ⟨g,hh*8+2,none⟩=some (.int .i64 y.at_)∧W.cell? ⟨g,hh*8+3,none⟩=some (.int .i64 y.kind)∧W.cell? ⟨g,hh*8+4,none⟩=some (.string ⟨y.per.toArray⟩)∧W.cell? ⟨g,hh*8+5,none⟩=some (.string ⟨y.item.toArray⟩)∧W.cell? ⟨g,hh*8+6,none⟩=some (.int .i64 y.val)∧W.cell? ⟨g,hh*8+7,none⟩=some (.string ⟨y.text.toArray⟩)∧W.cell? ⟨g,a*8,none⟩=some (.string ⟨x.src.toArray⟩)∧W.cell? ⟨g,a*8+1,none⟩=some (.int .i64 x.num)∧W.cell? ⟨g,a*8+2,none⟩=some (.int .i64 x.at_)∧W.cell? ⟨g,a*8+3,none⟩=some (.int .i64 x.kind)∧W.cell? ⟨g,a*8+4,none⟩=some (.string ⟨x.per.toArray⟩)∧W.cell? ⟨g,a*8+5,none⟩=some (.string ⟨x.item.toArray⟩)∧W.cell? ⟨g,a*8+6,none⟩=some (.int .i64 x.val)∧W.cell? ⟨g,a*8+7,none⟩=some (.string ⟨x.text.toArray⟩))from fun W hW=>by obtain⟨a0,a1,a2,a3,a4,a5,a6,a7⟩:=HEV1.out W hW;obtain⟨b0,b1,b2,b3,b4,b5,b6,b7⟩:=HEV2.out W hW;exact⟨a0,a1,a2,a3,a4,a5,a6,a7,b0,b1,b2,b3,b4,b5,b6,b7⟩);have HX:=qH (HS.out.drewN 1);have hS:=HSS.out _ HS.out;go_region_held3(fun W=>W.cell? ⟨g,hh*8,none⟩=some (.string ⟨y.src.toArray⟩)∧W.cell? ⟨g,hh*8+1,none⟩=some (.int .i64 y.num)∧W.cell? ⟨g,hh*8+2,none⟩=some (.int .i64 y.at_)∧W.cell? ⟨g,hh*8+3,none⟩=some (.int .i64 y.kind)∧W.cell? ⟨g,hh*8+4,none⟩=some (.string ⟨y.per.toArray⟩)∧W.cell? ⟨g,hh*8+5,none⟩=some (.string ⟨y.item.toArray⟩)∧W.cell? ⟨g,hh*8+6,none⟩=some (.int .i64 y.val)∧W.cell? ⟨g,hh*8+7,none⟩=some (.string ⟨y.text.toArray⟩)∧W.cell? ⟨g,a*8,none⟩=some (.string ⟨x.src.toArray⟩)∧W.cell? ⟨g,a*8+1,none⟩=some (.int .i64 x.num)∧W.cell? ⟨g,a*8+2,none⟩=some (.int .i64 x.at_)∧W.cell? ⟨g,a*8+3,none⟩=some (.int .i64 x.kind)∧W.cell? ⟨g,a*8+4,none⟩=some (.string ⟨x.per.toArray⟩)∧W.cell? ⟨g,a*8+5,none⟩=some (.string ⟨x.item.toArray⟩)∧W.cell? ⟨g,a*8+6,none⟩=some (.int .i64 x.val)∧W.cell? ⟨g,a*8+7,none⟩=some (.string ⟨x.text.toArray⟩))(first|assumption|exact HSS.out _ HX.out|go_keep)((go_at_call 61;(with_reducible refine(HCM.out _).mono ?_);rintro r9 w9⟨rfl,hb9⟩;have HX2:=qH (HX.out.up hb9);clear HX;have HX:=HX2;clear HX2;(try clear hS);have hS:=HSS.out _ HX.out;clear hb9));clear hS HSS HCM HEV1 HEV2;have HRR:=qH (HR2.out _ HLT.out HX.out);clear HX;go_wp2;go_roundw;case rel=>exact HRR.out
    case measure=>simp[intOf];omega
  ·have hpe:q=p:=by omega
   have t1: ¬(i:Int)<j:=by omega
   have hpB:p≤B.length:=by omega
   have HB1:=qH (bs_lo (lo:=fun z=>LtE z x) HBS.out hpB HLO.out (fun y z h1 h2=>h1.lt2 h2));have HB2:=qH (bs_hi (p:=p) (hi:=fun z=> ¬LtE z x) HBS.out (by rw[←hpe];exact HHI.out) (fun y z h1 h2=>fun h3=>h2 (h1.lt2 h3)));obtain⟨ap,hap⟩: ∃ap,ap=a+p:=⟨_,rfl⟩;have s2:(i:Int)-1=(ap:Int):=by have:=HM.out;omega
   have hapn:ap<n:=by have:=HM.out;omega
   have HAP:=qH hap;have HTL:=qH (show(B.take p).length=p by rw[List.length_take];omega);have HMV:=qH (show MvRel w0 base g n cap a X (B.take p) (B.drop p++Y) x (.int .i64 (a:Int)) wr from⟨0,rfl,Nat.zero_le _,by
    have h1:=HS.out;have h2:B++Y=B.take p++(B.drop p++Y):=by rw[←List.append_assoc,List.take_append_drop]
    rw[h2]at h1;simpa using h1⟩);have HFIN:=qH (show∀W,Srt w0 base g n cap (X++(B.take p++x::B.drop p)++Y) W→MrgPost w0 base g n cap X (x::B) Y (.returned (.tuple #[])) W from fun W hW=>⟨rfl,B.take p++x::B.drop p,sorted_put (by rw[List.take_append_drop];exact HBS.out) (fun y hy=>(HB1.out y hy).le) (fun y hy=>HB2.out y hy),by have h2:(B.take p++x::B.drop p).Perm (x::(B.take p++B.drop p)):=List.perm_middle;rw[List.take_append_drop]at h2;exact h2,hW⟩);clear hi hj hpe hap HB1 HB2 HS HLO HHI;generalize B.take p=B1 at*;generalize B.drop p=B2 at*;go_wp2;go_loopw[13](fun k wz=>MvRel w0 base g n cap a X B1 (B2++Y) x k wz)(fun k _=>ap-(intOf k).toNat);case atStart=>exact HMV.out
   case round=>
    obtain⟨t,rfl,ht,hS⟩:=hrel;generalize wr=wz at*;have HS:=qH hS;obtain⟨k,hk⟩: ∃k,k=a+t:=⟨_,rfl⟩;rw[←hk];have HK:=qH hk;have hkap:k≤ap:=by have:=HAP.out;have:=HTL.out;omega
    by_cases htp:t<B1.length
    ·have hkl:k<ap:=by have:=HAP.out;have:=HTL.out;omega
     have t2:(k:Int)<ap:=by omega
     obtain⟨k1,hk1⟩: ∃k1,k1=k+1:=⟨_,rfl⟩;have hxa:X.length=a:=HA.out;have hSW:=(show Srt w0 base g n cap ((X++B1.take t)++x::([]++B1[t]::(B1.drop (t+1)++(B2++Y)))) wz by rw[List.drop_eq_getElem_cons htp]at hS;simpa only[List.append_assoc,List.cons_append,List.nil_append]using hS).swf (i:=k) (j:=k1) (by simp;omega) (by simp;omega);have HRR:=qH (show MvRel w0 base g n cap a X B1 (B2++Y) x (.int .i64 (k1:Int)) (setEv (setEv wz g (k*8) B1[t]) g (k1*8) x).drew from⟨t+1,by congr 1;omega,htp,by have h2:=hSW.resLo;rw[List.take_add_one,List.getElem?_eq_getElem htp];simpa only[List.append_assoc,List.cons_append,List.nil_append,Option.toList_some]using h2⟩);generalize B1[t]=y at*;have hk1n:=hSW.lt;have hkn':(k:Int)<n:=by omega
     have hk1n':(k1:Int)<n:=by omega
     obtain⟨e0,e1,e2,e3,e4,e5,e6,e7⟩:=hSW.ex;obtain⟨f0,f1,f2,f3,f4,f5,f6,f7⟩:=hSW.ey;have hfr:=hSW.fr;obtain⟨⟨z9,z0,z1,z2,z3,z4,z5,z6,z7⟩,hf5⟩:=hSW.lo;unfold setEv at z0 z1 z2 z3 z4 z5 z6 z7 hf5;obtain⟨s3,s4⟩:(k:Int)+1=(k1:Int)∧IntKind.i64.wrap (k1:Int)=(k1:Int):=⟨by omega,IntWalk.i64_in _ (by omega)⟩;clear hSW hS HS hk hk1 hxa htp ht;go_wp2;go_region_law(fail);all_goals
      clear z0 z1 z2 z3 z4 z5 z6 z7 hf5 e0 e1 e2 e3 e4 e5 e6 e7 f0 f1 f2 f3 f4 f5 f6 f7 hfr;change Exit.inBlock _ _ _ _ (setEv (setEv wz g (k*8) y) g (k1*8) x).drew;generalize(setEv (setEv wz g (k*8) y) g (k1*8) x).drew=w5 at*;go_wp2;go_roundw;case rel=>exact HRR.out
      case measure=>simp[intOf];omega
    ·have hkl:k=ap:=by have:=HAP.out;have:=HTL.out;omega
     have t2: ¬(k:Int)<ap:=by omega
     have HF:=qH (HFIN.out wz (by have h1:=HS.out;rw[List.take_of_length_le (by omega),List.drop_eq_nil_of_le (by omega)]at h1;simpa only[List.append_assoc,List.cons_append,List.nil_append]using h1));clear hS hk hkl;go_wp2;go_end0;exact HF.out
theorem sym2_any(w0 w:World)(base g n cap:Nat)(X A Y:List Ev)(y:Ev)(h:Srt w0 base g n cap (X++(A++y::Y)) w)(hA:SortedE A)(hA2:2≤A.length)(hn:n≤1000000)(a m b:Nat)(ha:X.length=a)(hm:a+A.length=m)(hb:m+1=b):Calls Tryz.prog 177 #[.slice (some ⟨g,0,none⟩) n cap,.int .i64 a,.int .i64 m,.int .i64 b,cmpV] w (MrgPost w0 base g n cap X (A++[y]) Y):=by
 have hlen:n=X.length+A.length+1+Y.length:=by have:=h.len;simp at this;omega
 have hbn:b≤n:=by omega
 have hmb:m<b:=by omega
 have ham:a+1<m:=by omega
 have HH:=qH (show BsRel w0 base g n cap (X++(A++y::Y)) A (fun z=> ¬LtE y z) (fun z=>LtE y z) a (.int .i64 (a:Int)) (.int .i64 (m:Int)) w from⟨0,A.length,rfl,by rw[hm],Nat.zero_le _,Nat.le_refl _,(fun z h0=>by omega),(fun z hz=>by rw[List.getElem?_eq_none (Nat.le_refl _)]at hz;cases hz),h⟩);have HAS:=qH hA;have HA:=qH ha;have HM:=qH hm;have HB:=qH hb;have b0:((m:Int)-a==1)=false:=beq_eq_false_iff_ne.2 (by omega);have s1:(b:Int)-m=1:=by omega
 clear h hA hlen ha hm hb;go_enter Tryz.func177,Tryz.ntmps177;go_wp2;clear s1 b0;go_loopw[14,15](fun i j wr=>BsRel w0 base g n cap (X++(A++y::Y)) A (fun z=> ¬LtE y z) (fun z=>LtE y z) a i j wr)(fun i j _=>(intOf j-intOf i).toNat);case atStart=>exact HH.out
 case round=>
  obtain⟨p,q,rfl,rfl,hpq,hqA,hlo,hhi,hS⟩:=hrel;have HS:=qH hS;have HLO:=qH hlo;have HHI:=qH hhi;obtain⟨i,hi⟩: ∃i,i=a+p:=⟨_,rfl⟩;obtain⟨j,hj⟩: ∃j,j=a+q:=⟨_,rfl⟩;rw[←hi,←hj];have HI:=qH hi;have HJ:=qH hj;have hjm:j≤m:=by have:=HM.out;omega
  have hai:a≤i:=by omega
  have hij':i≤j:=by omega
  clear hlo hhi hS HH;by_cases hlt:p<q
  ·have t1:(i:Int)<j:=by omega
   have hijn:i<j:=by omega
   obtain⟨hh,hhh⟩: ∃hh,hh=(i+j)/2:=⟨_,rfl⟩;obtain⟨u,hu⟩: ∃u,u=hh-a:=⟨_,rfl⟩;have hmu:a+u=hh:=by omega
   have huA:u<A.length:=by omega
   have hpu:p≤u:=by omega
   have huq:u<q:=by omega
   have hhn:(hh:Int)<n:=by omega
   have hmn:(m:Int)<n:=by omega
   have hxa:X.length=a:=HA.out;have HU:=qH hmu;have HEV1:=qH (show∀W,Srt w0 base g n cap (X++(A++y::Y)) W→EvAt W g (m*8) y from fun W hW=>hW.at_ (P:=X++A) (R:=Y) (by simp only[List.append_assoc]) (by have:=HM.out;rw[List.length_append];omega));have HEV2:=qH (show∀W,Srt w0 base g n cap (X++(A++y::Y)) W→EvAt W g (hh*8) A[u]from fun W hW=>hW.at_ (P:=X++A.take u) (R:=A.drop (u+1)++y::Y) (by
    have h1:A=A.take u++A[u]::A.drop (u+1):=by rw[←List.drop_eq_getElem_cons huA,List.take_append_drop]
    conv=>lhs;rw[h1]
    simp only[List.append_assoc,List.cons_append]) (by simp;omega));have HR1:=qH (show∀W,¬LtE y A[u]→Srt w0 base g n cap (X++(A++y::Y)) W→BsRel w0 base g n cap (X++(A++y::Y)) A (fun z=> ¬LtE y z) (fun z=>LtE y z) a (.int .i64 ((hh:Int)+1)) (.int .i64 (j:Int)) W from fun W hl hW=>⟨u+1,q,by have:=HU.out;congr 1;omega,by rw[HJ.out],by omega,hqA,fun z _ hz=>by rw[Nat.add_sub_cancel,List.getElem?_eq_getElem huA]at hz;injection hz with hz;rw[←hz];exact hl,HHI.out,hW⟩);have HR2:=qH (show∀W,LtE y A[u]→Srt w0 base g n cap (X++(A++y::Y)) W→BsRel w0 base g n cap (X++(A++y::Y)) A (fun z=> ¬LtE y z) (fun z=>LtE y z) a (.int .i64 (i:Int)) (.int .i64 (hh:Int)) W from fun W hl hW=>⟨p,u,by rw[HI.out],by rw[HU.out],hpu,by omega,HLO.out,fun z hz=>by rw[List.getElem?_eq_getElem huA]at hz;injection hz with hz;rw[←hz];exact hl,hW⟩);have s0:((i:Int)+(j:Int))/2=(hh:Int):=by omega
   have hih:i≤hh:=by omega
   have hhj:hh<j:=by omega
   generalize A[u]=z at*;generalize X++(A++y::Y)=LL at*;clear hi hj hhh hu hmu huA hxa;have HCM:=qH (show∀W,Calls Tryz.prog 61 #[.agg #[.string ⟨y.src.toArray⟩,.int .i64 y.num,.int .i64 y.at_,.int .i64 y.kind,.string ⟨y.per.toArray⟩,.string ⟨y.item.toArray⟩,.int .i64 y.val,.string ⟨y.text.toArray⟩],.agg #[.string ⟨z.src.toArray⟩,.int .i64 z.num,.int .i64 z.at_,.int .i64 z.kind,.string ⟨z.per.toArray⟩,.string ⟨z.item.toArray⟩,.int .i64 z.val,.string ⟨z.text.toArray⟩]] W fun e w'=>e=.returned (.int .i64 (cmpE y z))∧Below W.heap.size W w' from fun W=>compare_any W y z);by_cases hl:cmpE y z<0
   ·have HLT:=qH (cmpE_neg.1 hl);have hl2:(!decide (cmpE y z<0))=false:=by rw[decide_eq_true hl];rfl
    go_wp2;clear s0;have HSS:=qH (show∀W:World,Srt w0 base g n cap LL W→(W.cell? ⟨g,m*8,none⟩=some (.string ⟨y.src.toArray⟩)∧W.cell? ⟨g,m*8+1,none⟩=some (.int .i64 y.num)∧W.cell? ⟨g,m*8+2,none⟩=some (.int .i64 y.at_)∧W.cell? ⟨g,m*8+3,none⟩=some (.int .i64 y.kind)∧W.cell? ⟨g,m*8+4,none⟩=some (.string ⟨y.per.toArray⟩)∧W.cell? ⟨g,m*8+5,none⟩=some (.string ⟨y.item.toArray⟩)∧W.cell? ⟨g,m*8+6,none⟩=some (.int .i64 y.val)∧W.cell? ⟨g,m*8+7,none⟩=some (.string ⟨y.text.toArray⟩)∧W.cell? ⟨g,hh*8,none⟩=some (.string ⟨z.src.toArray⟩)∧W.cell? ⟨g,hh*8+1,none⟩=some (.int .i64 z.num)∧W.cell? ⟨g,hh*8+2,none⟩=some (.int .i64 z.at_)∧W.cell? ⟨g,hh*8+3,none⟩=some (.int .i64 z.kind)∧W.cell? ⟨g,hh*8+4,none⟩=some (.string ⟨z.per.toArray⟩)∧W.cell? ⟨g,hh*8+5,none⟩=some (.string ⟨z.item.toArray⟩)∧W.cell? ⟨g,hh*8+6,none⟩=some (.int .i64 z.val)∧W.cell? ⟨g,hh*8+7,none⟩=some (.string ⟨z.text.toArray⟩))from fun W hW=>by obtain⟨a0,a1,a2,a3,a4,a5,a6,a7⟩:=HEV1.out W hW;obtain⟨b0,b1,b2,b3,b4,b5,b6,b7⟩:=HEV2.out W hW;exact⟨a0,a1,a2,a3,a4,a5,a6,a7,b0,b1,b2,b3,b4,b5,b6,b7⟩);have HX:=qH (HS.out.drewN 1);have hS:=HSS.out _ HS.out;go_region_held3(fun W=>W.cell? ⟨g,m*8,none⟩=some (.string ⟨y.src.toArray⟩)∧W.cell? ⟨g,m*8+1,none⟩=some (.int .i64 y.num)∧W.cell? ⟨g,m*8+2,none⟩=some (.int .i64 y.at_)∧W.cell? ⟨g,m*8+3,none⟩=some (.int .i64 y.kind)∧W.cell? ⟨g,m*8+4,none⟩=some (.string ⟨y.per.toArray⟩)∧W.cell? ⟨g,m*8+5,none⟩=some (.string ⟨y.item.toArray⟩)∧W.cell? ⟨g,m*8+6,none⟩=some (.int .i64 y.val)∧W.cell? ⟨g,m*8+7,none⟩=some (.string ⟨y.text.toArray⟩)∧W.cell? ⟨g,hh*8,none⟩=some (.string ⟨z.src.toArray⟩)∧W.cell? ⟨g,hh*8+1,none⟩=some (.int .i64 z.num)∧W.cell? ⟨g,hh*8+2,none⟩=some (.int .i64 z.at_)∧W.cell? ⟨g,hh*8+3,none⟩=some (.int .i64 z.kind)∧W.cell? ⟨g,hh*8+4,none⟩=some (.string ⟨z.per.toArray⟩)∧W.cell? ⟨g,hh*8+5,none⟩=some (.string ⟨z.item.toArray⟩)∧W.cell? ⟨g,hh*8+6,none⟩=some (.int .i64 z.val)∧W.cell? ⟨g,hh*8+7,none⟩=some (.string ⟨z.text.toArray⟩))(first|assumption|exact HSS.out _ HX.out|go_keep)((go_at_call 61;(with_reducible refine(HCM.out _).mono ?_);rintro r9 w9⟨rfl,hb9⟩;have HX2:=qH (HX.out.up hb9);clear HX;have HX:=HX2;clear HX2;(try clear hS);have hS:=HSS.out _ HX.out;clear hb9));clear hS HSS HCM HEV1 HEV2;have HRR:=qH (HR2.out _ HLT.out HX.out);clear HX;go_wp2;go_roundw;case rel=>exact HRR.out
    case measure=>simp[intOf];omega
   ·have HLT:=qH (show¬LtE y z from fun h=>hl (cmpE_neg.2 h));have hl2:(!decide (cmpE y z<0))=true:=by rw[decide_eq_false hl];rfl
    go_wp2;clear s0;have HSS:=qH (show∀W:World,Srt w0 base g n cap LL W→(W.cell? ⟨g,m*8,none⟩=some (.string ⟨y.src.toArray⟩)∧W.cell? ⟨g,m*8+1,none⟩=some (.int .i64 y.num)∧W.cell? ⟨g,m*8+2,none⟩=some (.int .i64 y.at_)∧W.cell? ⟨g,m*8+3,none⟩=some (.int .i64 y.kind)∧W.cell? ⟨g,m*8+4,none⟩=some (.string ⟨y.per.toArray⟩)∧W.cell? ⟨g,m*8+5,none⟩=some (.string ⟨y.item.toArray⟩)∧W.cell? ⟨g,m*8+6,none⟩=some (.int .i64 y.val)∧W.cell? ⟨g,m*8+7,none⟩=some (.string ⟨y.text.toArray⟩)∧W.cell? ⟨g,hh*8,none⟩=some (.string ⟨z.src.toArray⟩)∧W.cell? ⟨g,hh*8+1,none⟩=some (.int .i64 z.num)∧W.cell? ⟨g,hh*8+2,none⟩=some (.int .i64 z.at_)∧W.cell? ⟨g,hh*8+3,none⟩=some (.int .i64 z.kind)∧W.cell? ⟨g,hh*8+4,none⟩=some (.string ⟨z.per.toArray⟩)∧W.cell? ⟨g,hh*8+5,none⟩=some (.string ⟨z.item.toArray⟩)∧W.cell? ⟨g,hh*8+6,none⟩=some (.int .i64 z.val)∧W.cell? ⟨g,hh*8+7,none⟩=some (.string ⟨z.text.toArray⟩))from fun W hW=>by obtain⟨a0,a1,a2,a3,a4,a5,a6,a7⟩:=HEV1.out W hW;obtain⟨b0,b1,b2,b3,b4,b5,b6,b7⟩:=HEV2.out W hW;exact⟨a0,a1,a2,a3,a4,a5,a6,a7,b0,b1,b2,b3,b4,b5,b6,b7⟩);have HX:=qH (HS.out.drewN 1);have hS:=HSS.out _ HS.out;go_region_held3(fun W=>W.cell? ⟨g,m*8,none⟩=some (.string ⟨y.src.toArray⟩)∧W.cell? ⟨g,m*8+1,none⟩=some (.int .i64 y.num)∧W.cell? ⟨g,m*8+2,none⟩=some (.int .i64 y.at_)∧W.cell? ⟨g,m*8+3,none⟩=some (.int .i64 y.kind)∧W.cell? ⟨g,m*8+4,none⟩=some (.string ⟨y.per.toArray⟩)∧W.cell? ⟨g,m*8+5,none⟩=some (.string ⟨y.item.toArray⟩)∧W.cell? ⟨g,m*8+6,none⟩=some (.int .i64 y.val)∧W.cell? ⟨g,m*8+7,none⟩=some (.string ⟨y.text.toArray⟩)∧W.cell? ⟨g,hh*8,none⟩=some (.string ⟨z.src.toArray⟩)∧W.cell? ⟨g,hh*8+1,none⟩=some (.int .i64 z.num)∧W.cell? ⟨g,hh*8+2,none⟩=some (.int .i64 z.at_)∧W.cell? ⟨g,hh*8+3,none⟩=some (.int .i64 z.kind)∧W.cell? ⟨g,hh*8+4,none⟩=some (.string ⟨z.per.toArray⟩)∧W.cell? ⟨g,hh*8+5,none⟩=some (.string ⟨z.item.toArray⟩)∧W.cell? ⟨g,hh*8+6,none⟩=some (.int .i64 z.val)∧W.cell? ⟨g,hh*8+7,none⟩=some (.string ⟨z.text.toArray⟩))(first|assumption|exact HSS.out _ HX.out|go_keep)((go_at_call 61;(with_reducible refine(HCM.out _).mono ?_);rintro r9 w9⟨rfl,hb9⟩;have HX2:=qH (HX.out.up hb9);clear HX;have HX:=HX2;clear HX2;(try clear hS);have hS:=HSS.out _ HX.out;clear hb9));clear hS HSS HCM HEV1 HEV2;have HRR:=qH (HR1.out _ HLT.out HX.out);clear HX;go_wp2;go_roundw;case rel=>exact HRR.out
    case measure=>simp[intOf];omega
  ·have hpe:q=p:=by omega
   have t1: ¬(i:Int)<j:=by omega
   have hpA:p≤A.length:=by omega
   have HB1:=qH (bs_lo (lo:=fun z=> ¬LtE y z) HAS.out hpA HLO.out (fun v z h1 h2=>fun h3=>h2 (h1.lt h3)));have HB2:=qH (bs_hi (p:=p) (hi:=fun z=>LtE y z) HAS.out (by rw[←hpe];exact HHI.out) (fun v z h1 h2=>h1.lt h2));have HTL:=qH (show(A.take p).length=p∧(A.drop p).length=A.length-p by simp;omega);have him:i≤m:=by omega
   have HMV:=qH (show MvRel w0 base g n cap i (X++A.take p) (A.drop p) Y y (.int .i64 (m:Int)) wr from⟨(A.drop p).length,by have:=HM.out;have:=HTL.out.2;congr 1;omega,Nat.le_refl _,by
    have h1:=HS.out;rw[List.take_length,List.drop_length];have h2:X++A.take p++A.drop p=X++A:=by rw[List.append_assoc,List.take_append_drop]
    rw[h2];simpa only[List.append_assoc,List.nil_append]using h1⟩);have HFIN:=qH (show∀W,Srt w0 base g n cap (X++(A.take p++y::A.drop p)++Y) W→MrgPost w0 base g n cap X (A++[y]) Y (.returned (.tuple #[])) W from fun W hW=>⟨rfl,A.take p++y::A.drop p,sorted_put (by rw[List.take_append_drop];exact HAS.out) (fun v hv=>HB1.out v hv) (fun v hv=>(HB2.out v hv).le),by have h2:(A.take p++y::A.drop p).Perm (y::(A.take p++A.drop p)):=List.perm_middle;rw[List.take_append_drop]at h2;exact h2.trans (List.perm_append_singleton y A).symm,hW⟩);have HXL:=qH (show(X++A.take p).length=i by have:=HTL.out.1;have:=HA.out;rw[List.length_append];omega);clear hi hj hpe HB1 HB2 HS HLO HHI hpA;generalize A.take p=A1 at*;generalize A.drop p=A2 at*;go_wp2;go_loopw[17](fun k wz=>MvRel w0 base g n cap i (X++A1) A2 Y y k wz)(fun k _=>(intOf k).toNat);case atStart=>exact HMV.out
   case round=>
    obtain⟨t,rfl,ht,hS⟩:=hrel;generalize wr=wz at*;have HS:=qH hS;obtain⟨k,hk⟩: ∃k,k=i+t:=⟨_,rfl⟩;rw[←hk];have HK:=qH hk;have hki:i≤k:=by omega
    cases t with
     |succ t=>
      have hkl:i<k:=by omega
      have t2:(i:Int)<k:=by omega
      obtain⟨km,hkm⟩: ∃km,km=i+t:=⟨_,rfl⟩;have hxa:=HXL.out;have htA:t<A2.length:=by omega
      have hSW:=(show Srt w0 base g n cap (((X++A1)++A2.take t)++A2[t]::([]++y::(A2.drop (t+1)++Y))) wz by rw[List.take_add_one,List.getElem?_eq_getElem htA]at hS;simpa only[List.append_assoc,List.cons_append,List.nil_append,Option.toList_some]using hS).swf (i:=km) (j:=k) (by rw[List.length_append,hxa,List.length_take];omega) (by rw[List.length_append,hxa,List.length_take];simp;omega);have HRR:=qH (show MvRel w0 base g n cap i (X++A1) A2 Y y (.int .i64 (km:Int)) (setEv (setEv wz g (k*8) A2[t]) g (km*8) y).drew from⟨t,by rw[hkm],by omega,by have h2:=hSW.resHi;rw[List.drop_eq_getElem_cons htA];simpa only[List.append_assoc,List.cons_append,List.nil_append]using h2⟩);generalize A2[t]=z at*;have hkn:=hSW.lt;have hkn':(k:Int)<n:=by omega
      have hkmn':(km:Int)<n:=by omega
      have hkmk:km<k:=by omega
      obtain⟨e0,e1,e2,e3,e4,e5,e6,e7⟩:=hSW.ex;obtain⟨f0,f1,f2,f3,f4,f5,f6,f7⟩:=hSW.ey;have hfr:=hSW.fr;obtain⟨⟨z9,z0,z1,z2,z3,z4,z5,z6,z7⟩,hf5⟩:=hSW.hi;unfold setEv at z0 z1 z2 z3 z4 z5 z6 z7 hf5;obtain⟨s3,s4⟩:(k:Int)-1=(km:Int)∧IntKind.i64.wrap (km:Int)=(km:Int):=⟨by omega,IntWalk.i64_in _ (by omega)⟩;clear hSW hS HS hk hkm hxa htA ht;go_wp2;go_region_law(fail);all_goals
       clear z0 z1 z2 z3 z4 z5 z6 z7 hf5 e0 e1 e2 e3 e4 e5 e6 e7 f0 f1 f2 f3 f4 f5 f6 f7 hfr;change Exit.inBlock _ _ _ _ (setEv (setEv wz g (k*8) z) g (km*8) y).drew;generalize(setEv (setEv wz g (k*8) z) g (km*8) y).drew=w5 at*;go_wp2;go_roundw;case rel=>exact HRR.out
       case measure=>simp[intOf];omega
     |zero=>
      have hkl:k=i:=by omega
      have t2: ¬(i:Int)<k:=by omega
      have t3: ¬i<k:=by omega
      have HF:=qH (HFIN.out wz (by have h1:=HS.out;simpa only[List.take_zero,List.drop_zero,List.append_nil,List.append_assoc,List.cons_append,List.nil_append]using h1));clear hS hk hkl;go_wp2;go_end0;exact HF.out
end Go.Proofs.YtcmmclliabhnjaaGreatDoor
