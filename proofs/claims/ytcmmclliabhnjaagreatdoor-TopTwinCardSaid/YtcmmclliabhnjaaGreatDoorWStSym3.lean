/-
  slices.symMergeCmpFunc at events, whole.
-/
import Derived.Test.YtcmmclliabhnjaaGreatDoorWStSym2
set_option maxRecDepth 100000
set_option maxHeartbeats 16000000
namespace Go.Proofs.YtcmmclliabhnjaaGreatDoor
open Go.RowKit Go.Maps Go.Sort
def SyRel(w0:World)(base g n cap:Nat)(LL A B:List Ev)(a m nn st rr:Nat)(iv jv:Value)(wr:World):Prop:= ∃s r:Nat,iv=.int .i64 (s:Int)∧jv=.int .i64 (r:Int)∧st≤s∧s≤r∧r≤rr∧(∀x y,st<s→A[s-1-a]?=some x→B[nn-s-m]?=some y→LeE x y)∧(∀x y,r<rr→A[r-a]?=some x→B[nn-1-r-m]?=some y→LtE y x)∧Srt w0 base g n cap LL wr
theorem sort_nil{A B:List Ev}(hA:SortedE A)(hB:SortedE B)(h:A=[]∨B=[]):SortedE (A++B):=by
 rcases h with rfl|rfl;·simpa using hB
 ·simpa using hA
theorem at_parts{w0 wr:World}{base g n cap:Nat}{X A R:List Ev}(h:Srt w0 base g n cap (X++(A++R)) wr){u i:Nat}(hu:u<A.length)(hi:X.length+u=i):EvAt wr g (i*8) A[u]:=h.at_ (P:=X++A.take u) (R:=A.drop (u+1)++R) (by
 have h1:A=A.take u++A[u]::A.drop (u+1):=by rw[←List.drop_eq_getElem_cons hu,List.take_append_drop]
 conv=>lhs;rw[h1]
 simp only[List.append_assoc,List.cons_append]) (by rw[List.length_append,List.length_take];omega)
theorem symMerge_any(N:Nat): ∀(w0 w:World)(base g n cap:Nat)(X A B Y:List Ev),A.length+B.length≤N→Srt w0 base g n cap (X++A++B++Y) w→SortedE A→SortedE B→0<A.length→0<B.length→n≤1000000→ ∀(a m b:Nat),X.length=a→a+A.length=m→m+B.length=b→Calls Tryz.prog 177 #[.slice (some ⟨g,0,none⟩) n cap,.int .i64 a,.int .i64 m,.int .i64 b,cmpV] w (MrgPost w0 base g n cap X (A++B) Y):=by
 induction N with
  |zero=>intro w0 w base g n cap X A B Y hN _ _ _ hA0;omega
  |succ N ih=>
   intro w0 w base g n cap X A B Y hN h hA hB hA0 hB0 hn a m b ha hm hb;by_cases hA1:A.length=1;·obtain⟨x,rfl⟩:=List.length_eq_one_iff.1 hA1;exact sym1_any w0 w base g n cap X B Y x (by simpa using h) hB hB0 hn a m b ha (by simpa using hm) hb
   by_cases hB1:B.length=1;·obtain⟨y,rfl⟩:=List.length_eq_one_iff.1 hB1;exact sym2_any w0 w base g n cap X A Y y (by simpa using h) hA (by omega) hn a m b ha hm (by simpa using hb)
   obtain⟨hh,hhh⟩: ∃hh,hh=(A.length+B.length)/2:=⟨_,rfl⟩;obtain⟨mid,hmid⟩: ∃mid,mid=a+hh:=⟨_,rfl⟩;obtain⟨nn,hnn⟩: ∃nn,nn=mid+m:=⟨_,rfl⟩;obtain⟨pp,hpp⟩: ∃pp,pp=nn-1:=⟨_,rfl⟩;have hlen:n=X.length+A.length+B.length+Y.length:=by have:=h.len;simp at this;omega
   have hbn:b≤n:=by omega
   have b0:((m:Int)-a==1)=false:=beq_eq_false_iff_ne.2 (by omega);have b1:((b:Int)-m==1)=false:=beq_eq_false_iff_ne.2 (by omega);have s0:((a:Int)+b)/2=mid:=by omega
   have s1:(mid:Int)+m=nn:=by omega
   have s3:(nn:Int)-1=pp:=by omega
   have ham:a<m:=by omega
   have hmb:m<b:=by omega
   have hmidb:mid<b:=by omega
   have hamid:a<mid:=by omega
   have hh1:2*hh≤A.length+B.length∧A.length+B.length≤2*hh+1:=by omega
   have HIH:=qH ih;have HA:=qH hA;have HB:=qH hB;have HXA:=qH ha;have HM:=qH hm;have HBB:=qH hb;have HN:=qH hN;have HMID:=qH hmid;have HNN:=qH hnn;have HPP:=qH hpp;have HHH:=qH hhh;have HS0:=qH (show Srt w0 base g n cap (X++A++B++Y) w from h);have hAm:A.length=m-a:=by omega
   have hBm:B.length=b-m:=by omega
   have HAL:=qH hAm;have HBL:=qH hBm;have hmidm:mid+m=nn:=hnn.symm;have HMM:=qH hmidm;have hnb:nn≤2*n:=by omega
   have hpn:pp+1≤2*n:=by omega
   by_cases hmm:mid<m
   ·have t0:(mid:Int)<m:=by omega
    obtain⟨st,hst⟩: ∃st,st=nn-b:=⟨_,rfl⟩;have s2:(nn:Int)-b=st:=by omega
    have HU0:=qH (show st=a∨st+b=nn from .inr (by omega));obtain⟨rr,hrr⟩: ∃rr,rr=mid:=⟨_,rfl⟩;have HR0:=qH (show rr=mid∨rr=m from .inl hrr);have hast:a≤st:=by omega
    have hstr:st≤rr:=by omega
    have hrm:rr≤m:=by omega
    have hrmid:rr≤mid:=by omega
    have hnst:nn≤st+b:=by omega
    clear hnn hpp hhh ha hm hb hN hA hB ih hh1 hlen hA1 hB1 hAm hBm hmidm h hmid hst;go_enter Tryz.func177,Tryz.ntmps177;go_wp2;clear s0 s1 s2 s3 b0 b1;clear t0;have HH:=qH (show SyRel w0 base g n cap (X++A++B++Y) A B a m nn st rr (.int .i64 (st:Int)) (.int .i64 (mid:Int)) w from⟨st,rr,rfl,by rw[hrr],Nat.le_refl _,hstr,Nat.le_refl _,(fun x y h0=>by omega),(fun x y h0=>by omega),HS0.out⟩);clear HS0 hrr;go_loopw[20,21](fun i j wr=>SyRel w0 base g n cap (X++A++B++Y) A B a m nn st rr i j wr)(fun i j _=>(intOf j-intOf i).toNat);case atStart=>exact HH.out
    case round=>
     obtain⟨s,r,rfl,rfl,hss,hsr,hrr',hlo,hhi,hS⟩:=hrel;have HS:=qH hS;have HLO:=qH hlo;have HHI:=qH hhi;clear hlo hhi hS HH;by_cases hlt:s<r
     ·have t1:(s:Int)<r:=by omega
      obtain⟨cc,hcc⟩: ∃cc,cc=(s+r)/2:=⟨_,rfl⟩;obtain⟨u,hu⟩: ∃u,u=cc-a:=⟨_,rfl⟩;obtain⟨pc,hpc⟩: ∃pc,pc=pp-cc:=⟨_,rfl⟩;obtain⟨v,hv⟩: ∃v,v=pc-m:=⟨_,rfl⟩;have hNN:=HMM.out;have hPP:=HPP.out;have hAL:=HAL.out;have hBL:=HBL.out;have hc1:s≤cc∧cc<r:=by omega
      have huA:u<A.length:=by omega
      have hvB:v<B.length:=by omega
      have hmv:m+v=pc:=by omega
      have hau:a+u=cc:=by omega
      have hccn:(cc:Int)<n:=by omega
      have hpcn:(pc:Int)<n:=by omega
      have hxa:=HXA.out;have hxm:=HM.out;have HEV1:=qH (show∀W,Srt w0 base g n cap (X++A++B++Y) W→EvAt W g (pc*8) B[v]from fun W hW=>at_parts (X:=X++A) (A:=B) (R:=Y) (by simpa only[List.append_assoc]using hW) hvB (by rw[List.length_append];omega));have HEV2:=qH (show∀W,Srt w0 base g n cap (X++A++B++Y) W→EvAt W g (cc*8) A[u]from fun W hW=>at_parts (X:=X) (A:=A) (R:=B++Y) (by simpa only[List.append_assoc]using hW) huA (by omega));have HR1:=qH (show∀W,¬LtE B[v] A[u]→Srt w0 base g n cap (X++A++B++Y) W→SyRel w0 base g n cap (X++A++B++Y) A B a m nn st rr (.int .i64 ((cc:Int)+1)) (.int .i64 (r:Int)) W from fun W hl hW=>⟨cc+1,r,by congr 1,rfl,by omega,by omega,hrr',fun x y _ hx hy=>by rw[show cc+1-1-a=u by omega,List.getElem?_eq_getElem huA]at hx;rw[show nn-(cc+1)-m=v by omega,List.getElem?_eq_getElem hvB]at hy;injection hx with hx;injection hy with hy;rw[←hx,←hy];exact hl,HHI.out,hW⟩);have HR2:=qH (show∀W,LtE B[v] A[u]→Srt w0 base g n cap (X++A++B++Y) W→SyRel w0 base g n cap (X++A++B++Y) A B a m nn st rr (.int .i64 (s:Int)) (.int .i64 (cc:Int)) W from fun W hl hW=>⟨s,cc,rfl,rfl,hss,by omega,by omega,HLO.out,fun x y _ hx hy=>by rw[show cc-a=u by omega,List.getElem?_eq_getElem huA]at hx;rw[show nn-1-cc-m=v by omega,List.getElem?_eq_getElem hvB]at hy;injection hx with hx;injection hy with hy;rw[←hx,←hy];exact hl,hW⟩);have s0:((s:Int)+(r:Int))/2=(cc:Int):=by omega
      obtain⟨s4,s5⟩:(pp:Int)-(cc:Int)=(pc:Int)∧IntKind.i64.wrap (pc:Int)=(pc:Int):=⟨by omega,IntWalk.i64_in _ (by omega)⟩;have hscc:s≤cc:=hc1.1;have hccr:cc<r:=hc1.2;generalize B[v]=y at*;generalize A[u]=x at*;generalize X++A++B++Y=LL at*;clear hcc hu hpc hv hNN hPP hAL hBL huA hvB hmv hau hxa hxm hc1;have HCM:=qH (show∀W,Calls Tryz.prog 61 #[.agg #[.string ⟨y.src.toArray⟩,.int .i64 y.num,.int .i64 y.at_,.int .i64 y.kind,.string ⟨y.per.toArray⟩,.string ⟨y.item.toArray⟩,.int .i64 y.val,.string ⟨y.text.toArray⟩],.agg #[.string ⟨x.src.toArray⟩,.int .i64 x.num,.int .i64 x.at_,.int .i64 x.kind,.string ⟨x.per.toArray⟩,.string ⟨x.item.toArray⟩,.int .i64 x.val,.string ⟨x.text.toArray⟩]] W fun e w'=>e=.returned (.int .i64 (cmpE y x))∧Below W.heap.size W w' from fun W=>compare_any W y x);by_cases hl:cmpE y x<0
      ·have HLT:=qH (cmpE_neg.1 hl);have hl2:(!decide (cmpE y x<0))=false:=by rw[decide_eq_true hl];rfl
       go_wp2;clear s0;have HSS:=qH (show∀W:World,Srt w0 base g n cap LL W→(W.cell? ⟨g,pc*8,none⟩=some (.string ⟨y.src.toArray⟩)∧W.cell? ⟨g,pc*8+1,none⟩=some (.int .i64 y.num)∧W.cell? ⟨g,pc*8+2,none⟩=some (.int .i64 y.at_)∧W.cell? ⟨g,pc*8+3,none⟩=some (.int .i64 y.kind)∧W.cell? ⟨g,pc*8+4,none⟩=some (.string ⟨y.per.toArray⟩)∧W.cell? ⟨g,pc*8+5,none⟩=some (.string ⟨y.item.toArray⟩)∧W.cell? ⟨g,pc*8+6,none⟩=some (.int .i64 y.val)∧W.cell? ⟨g,pc*8+7,none⟩=some (.string ⟨y.text.toArray⟩)∧W.cell? ⟨g,cc*8,none⟩=some (.string ⟨x.src.toArray⟩)∧W.cell? ⟨g,cc*8+1,none⟩=some (.int .i64 x.num)∧W.cell? ⟨g,cc*8+2,none⟩=some (.int .i64 x.at_)∧W.cell? ⟨g,cc*8+3,none⟩=some (.int .i64 x.kind)∧W.cell? ⟨g,cc*8+4,none⟩=some (.string ⟨x.per.toArray⟩)∧W.cell? ⟨g,cc*8+5,none⟩=some (.string ⟨x.item.toArray⟩)∧W.cell? ⟨g,cc*8+6,none⟩=some (.int .i64 x.val)∧W.cell? ⟨g,cc*8+7,none⟩=some (.string ⟨x.text.toArray⟩))from fun W hW=>by obtain⟨a0,a1,a2,a3,a4,a5,a6,a7⟩:=HEV1.out W hW;obtain⟨b0,b1,b2,b3,b4,b5,b6,b7⟩:=HEV2.out W hW;exact⟨a0,a1,a2,a3,a4,a5,a6,a7,b0,b1,b2,b3,b4,b5,b6,b7⟩);have HX:=qH (HS.out.drewN 1);have hS:=HSS.out _ HS.out;go_region_held3(fun W=>W.cell? ⟨g,pc*8,none⟩=some (.string ⟨y.src.toArray⟩)∧W.cell? ⟨g,pc*8+1,none⟩=some (.int .i64 y.num)∧W.cell? ⟨g,pc*8+2,none⟩=some (.int .i64 y.at_)∧W.cell? ⟨g,pc*8+3,none⟩=some (.int .i64 y.kind)∧W.cell? ⟨g,pc*8+4,none⟩=some (.string ⟨y.per.toArray⟩)∧W.cell? ⟨g,pc*8+5,none⟩=some (.string ⟨y.item.toArray⟩)∧W.cell? ⟨g,pc*8+6,none⟩=some (.int .i64 y.val)∧W.cell? ⟨g,pc*8+7,none⟩=some (.string ⟨y.text.toArray⟩)∧W.cell? ⟨g,cc*8,none⟩=some (.string ⟨x.src.toArray⟩)∧W.cell? ⟨g,cc*8+1,none⟩=some (.int .i64 x.num)∧W.cell? ⟨g,cc*8+2,none⟩=some (.int .i64 x.at_)∧W.cell? ⟨g,cc*8+3,none⟩=some (.int .i64 x.kind)∧W.cell? ⟨g,cc*8+4,none⟩=some (.string ⟨x.per.toArray⟩)∧W.cell? ⟨g,cc*8+5,none⟩=some (.string ⟨x.item.toArray⟩)∧W.cell? ⟨g,cc*8+6,none⟩=some (.int .i64 x.val)∧W.cell? ⟨g,cc*8+7,none⟩=some (.string ⟨x.text.toArray⟩))(first|assumption|exact HSS.out _ HX.out|go_keep)((go_at_call 61;(with_reducible refine(HCM.out _).mono ?_);rintro r9 w9⟨rfl,hb9⟩;have HX2:=qH (HX.out.up hb9);clear HX;have HX:=HX2;clear HX2;(try clear hS);have hS:=HSS.out _ HX.out;clear hb9));clear hS HSS HCM HEV1 HEV2;have HRR:=qH (HR2.out _ HLT.out HX.out);clear HX s4 s5;go_wp2;go_roundw;case rel=>exact HRR.out
       case measure=>simp[intOf];omega
      ·have HLT:=qH (show¬LtE y x from fun h=>hl (cmpE_neg.2 h));have hl2:(!decide (cmpE y x<0))=true:=by rw[decide_eq_false hl];rfl
       go_wp2;clear s0;have HSS:=qH (show∀W:World,Srt w0 base g n cap LL W→(W.cell? ⟨g,pc*8,none⟩=some (.string ⟨y.src.toArray⟩)∧W.cell? ⟨g,pc*8+1,none⟩=some (.int .i64 y.num)∧W.cell? ⟨g,pc*8+2,none⟩=some (.int .i64 y.at_)∧W.cell? ⟨g,pc*8+3,none⟩=some (.int .i64 y.kind)∧W.cell? ⟨g,pc*8+4,none⟩=some (.string ⟨y.per.toArray⟩)∧W.cell? ⟨g,pc*8+5,none⟩=some (.string ⟨y.item.toArray⟩)∧W.cell? ⟨g,pc*8+6,none⟩=some (.int .i64 y.val)∧W.cell? ⟨g,pc*8+7,none⟩=some (.string ⟨y.text.toArray⟩)∧W.cell? ⟨g,cc*8,none⟩=some (.string ⟨x.src.toArray⟩)∧W.cell? ⟨g,cc*8+1,none⟩=some (.int .i64 x.num)∧W.cell? ⟨g,cc*8+2,none⟩=some (.int .i64 x.at_)∧W.cell? ⟨g,cc*8+3,none⟩=some (.int .i64 x.kind)∧W.cell? ⟨g,cc*8+4,none⟩=some (.string ⟨x.per.toArray⟩)∧W.cell? ⟨g,cc*8+5,none⟩=some (.string ⟨x.item.toArray⟩)∧W.cell? ⟨g,cc*8+6,none⟩=some (.int .i64 x.val)∧W.cell? ⟨g,cc*8+7,none⟩=some (.string ⟨x.text.toArray⟩))from fun W hW=>by obtain⟨a0,a1,a2,a3,a4,a5,a6,a7⟩:=HEV1.out W hW;obtain⟨b0,b1,b2,b3,b4,b5,b6,b7⟩:=HEV2.out W hW;exact⟨a0,a1,a2,a3,a4,a5,a6,a7,b0,b1,b2,b3,b4,b5,b6,b7⟩);have HX:=qH (HS.out.drewN 1);have hS:=HSS.out _ HS.out;go_region_held3(fun W=>W.cell? ⟨g,pc*8,none⟩=some (.string ⟨y.src.toArray⟩)∧W.cell? ⟨g,pc*8+1,none⟩=some (.int .i64 y.num)∧W.cell? ⟨g,pc*8+2,none⟩=some (.int .i64 y.at_)∧W.cell? ⟨g,pc*8+3,none⟩=some (.int .i64 y.kind)∧W.cell? ⟨g,pc*8+4,none⟩=some (.string ⟨y.per.toArray⟩)∧W.cell? ⟨g,pc*8+5,none⟩=some (.string ⟨y.item.toArray⟩)∧W.cell? ⟨g,pc*8+6,none⟩=some (.int .i64 y.val)∧W.cell? ⟨g,pc*8+7,none⟩=some (.string ⟨y.text.toArray⟩)∧W.cell? ⟨g,cc*8,none⟩=some (.string ⟨x.src.toArray⟩)∧W.cell? ⟨g,cc*8+1,none⟩=some (.int .i64 x.num)∧W.cell? ⟨g,cc*8+2,none⟩=some (.int .i64 x.at_)∧W.cell? ⟨g,cc*8+3,none⟩=some (.int .i64 x.kind)∧W.cell? ⟨g,cc*8+4,none⟩=some (.string ⟨x.per.toArray⟩)∧W.cell? ⟨g,cc*8+5,none⟩=some (.string ⟨x.item.toArray⟩)∧W.cell? ⟨g,cc*8+6,none⟩=some (.int .i64 x.val)∧W.cell? ⟨g,cc*8+7,none⟩=some (.string ⟨x.text.toArray⟩))(first|assumption|exact HSS.out _ HX.out|go_keep)((go_at_call 61;(with_reducible refine(HCM.out _).mono ?_);rintro r9 w9⟨rfl,hb9⟩;have HX2:=qH (HX.out.up hb9);clear HX;have HX:=HX2;clear HX2;(try clear hS);have hS:=HSS.out _ HX.out;clear hb9));clear hS HSS HCM HEV1 HEV2;have HRR:=qH (HR1.out _ HLT.out HX.out);clear HX s4 s5;go_wp2;go_roundw;case rel=>exact HRR.out
       case measure=>simp[intOf];omega
     ·have hse:r=s:=by omega
      have t1: ¬(s:Int)<r:=by omega
      obtain⟨a1,ha1⟩: ∃a1,a1=s-a:=⟨_,rfl⟩;obtain⟨en,hen⟩: ∃en,en=nn-s:=⟨_,rfl⟩;obtain⟨b1,hb1⟩: ∃b1,b1=en-m:=⟨_,rfl⟩;have hNN:=HMM.out;have hPP:=HPP.out;have hAL:=HAL.out;have hBL:=HBL.out;have hxa:=HXA.out;have hxm:=HM.out;have hbb:=HBB.out;have has1:a+a1=s:=by omega
      have hmen:m+b1=en:=by omega
      have henb:en≤b:=by omega
      have hmidab:mid=s+b1:=by omega
      have henm:mid+(m-s)=en:=by omega
      have HPT:=qH (show Parts A B a1 b1 from⟨by omega,by omega,fun h1 h2=>by
       have hst':st<s:=by rcases HU0.out with h3|h3<;>omega
       exact HLO.out _ _ hst' (by rw[show s-1-a=a1-1 by omega];exact List.getElem?_eq_getElem _) (by rw[show nn-s-m=b1 by omega];exact List.getElem?_eq_getElem h2),fun h1 h2=>by
       have hrr2:r<rr:=by rcases HR0.out with h3|h3<;>omega
       exact(HHI.out _ _ hrr2 (by rw[show r-a=a1 by omega];exact List.getElem?_eq_getElem h2) (by rw[show nn-1-r-m=b1-1 by omega];exact List.getElem?_eq_getElem _)).le⟩);have HL1:=qH (HPT.out.le1 HA.out HB.out);have HL2:=qH (HPT.out.le2 HA.out HB.out);have hla:a1≤A.length:=HPT.out.la;have hlb:b1≤B.length:=HPT.out.lb;have HTA:=qH (show(A.take a1).length=a1∧(A.drop a1).length=m-s∧(B.take b1).length=b1∧(B.drop b1).length=b-en by simp;omega);have HAE:=qH (show A.take a1++A.drop a1=A from List.take_append_drop a1 A);have HBE:=qH (show B.take b1++B.drop b1=B from List.take_append_drop b1 B);have HSA:=qH (sorted_append.1 (show SortedE (A.take a1++A.drop a1)by rw[HAE.out];exact HA.out));have HSB:=qH (sorted_append.1 (show SortedE (B.take b1++B.drop b1)by rw[HBE.out];exact HB.out));have HN2:=qH (show a1+b1≤N∧(m-s)+(b-en)≤N by have:=HN.out;omega);have HMG:=qH (show∀M L:List Ev,SortedE M→SortedE L→M.Perm (A.take a1++B.take b1)→L.Perm (A.drop a1++B.drop b1)→SortedE (M++L)∧(M++L).Perm (A++B)from fun M L h1 h2 h3 h4=>merge_parts HA.out HB.out HAE.out.symm HBE.out.symm HL1.out HL2.out h1 h2 h3 h4);have HS2:=qH (show Srt w0 base g n cap (X++A.take a1++A.drop a1++B.take b1++(B.drop b1++Y)) wr by have h1:=HS.out;rw[←HAE.out,←HBE.out]at h1;simpa only[List.append_assoc]using h1);have s5:(nn:Int)-s=(en:Int):=by omega
      have hasx:a≤s:=by omega
      have hsm:s≤m:=by omega
      have hmen':m≤en:=by omega
      have hsmid:s≤mid:=by omega
      have hmiden:mid≤en:=by omega
      have HE1:=qH (show(s=m→A.drop a1=[])∧(m=en→B.take b1=[])∧(a=s→A.take a1=[])∧(s=mid→B.take b1=[])∧(mid=en→A.drop a1=[])∧(en=b→B.drop b1=[])from⟨fun h=>List.eq_nil_of_length_eq_zero (by have:=HTA.out;omega),fun h=>List.eq_nil_of_length_eq_zero (by have:=HTA.out;omega),fun h=>List.eq_nil_of_length_eq_zero (by have:=HTA.out;omega),fun h=>List.eq_nil_of_length_eq_zero (by have:=HTA.out;omega),fun h=>List.eq_nil_of_length_eq_zero (by have:=HTA.out;omega),fun h=>List.eq_nil_of_length_eq_zero (by have:=HTA.out;omega)⟩);have HXS:=qH (show(X++A.take a1).length=s by rw[List.length_append];have:=HTA.out.1;omega);have HAS1:=qH has1;have HME:=qH hmen;have HMI:=qH hmidab;clear HS HLO HHI HL1 HL2 HPT ha1 hen hb1 hNN hPP hAL hBL hxa hxm hbb has1 hmen hmidab henm hla hlb hse HN;generalize A.take a1=A1 at*;generalize A.drop a1=A2 at*;generalize B.take b1=B1 at*;generalize B.drop b1=B2 at*;have hmi1:mid≤s+b1:=by have:=HMI.out;omega
      have hmi2:s+b1≤mid:=by have:=HMI.out;omega
      have hme1:m+b1≤en:=by have:=HME.out;omega
      have hme2:en≤m+b1:=by have:=HME.out;omega
      by_cases g1:s<m
      ·by_cases g2:m<en
       ·by_cases g3:a<s
        ·by_cases g4:en<b
         ·have c0:s<m:=by omega
          have d0:(s:Int)<m:=by omega
          have c1:m<en:=by omega
          have d1:(m:Int)<en:=by omega
          have c2:a<s:=by omega
          have d2:(a:Int)<s:=by omega
          have c3:s<mid:=by omega
          have d3:(s:Int)<mid:=by omega
          have c4:mid<en:=by omega
          have d4:(mid:Int)<en:=by omega
          have c5:en<b:=by omega
          have d5:(en:Int)<b:=by omega
          have HC:=qH (rotate_any w0 wr base g n cap (X++A1) A2 B1 (B2++Y) HS2.out (by have:=HTA.out;omega) (by have:=HTA.out;have:=HME.out;omega) hn s m en HXS.out (by have:=HTA.out;omega) (by have:=HTA.out;have:=HME.out;omega) cmpV);go_wp2_with fail;with_reducible refine HC.out.mono ?_
          rintro r9 w5⟨rfl,hS9⟩;have HC1:=qH (show Srt w0 base g n cap (X++A1++B1++A2++(B2++Y)) w5 from hS9);clear hS9 HC;have HC:=qH (HIH.out w0 w5 base g n cap X A1 B1 (A2++(B2++Y)) (by have:=HTA.out;have:=HN2.out;omega) (by have:=HC1.out;simpa only[List.append_assoc]using this) HSA.out.1 HSB.out.1 (by have:=HTA.out;have:=HAS1.out;omega) (by have:=HTA.out;have:=HMI.out;omega) hn a s mid HXA.out (by have:=HTA.out;have:=HAS1.out;omega) (by have:=HTA.out;have:=HMI.out;omega));go_wp2_with fail;with_reducible refine HC.out.mono ?_
          rintro r9 w6⟨rfl,M,hM1,hM2,hM3⟩;have HM1:=qH hM1;have HM2:=qH hM2;have HM3:=qH hM3;clear hM1 hM2 hM3 HC;have HML:=qH (show(X++M).length=mid by have h1:=HM2.out.length_eq;have:=HTA.out;have:=HMI.out;have:=HAS1.out;have:=HXA.out;simp at h1⊢;omega);have HFIN:=qH (show∀(W:World)(L:List Ev),SortedE L→L.Perm (A2++B2)→Srt w0 base g n cap (X++M++L++Y) W→MrgPost w0 base g n cap X (A++B) Y (.returned (.tuple #[])) W from fun W L h1 h2 h3=>⟨rfl,M++L,(HMG.out M L HM1.out h1 HM2.out h2).1,(HMG.out M L HM1.out h1 HM2.out h2).2,by simpa only[List.append_assoc]using h3⟩);have HC:=qH (HIH.out w0 w6 base g n cap (X++M) A2 B2 Y (by have:=HTA.out;have:=HN2.out;omega) (by have:=HM3.out;simpa only[List.append_assoc]using this) HSA.out.2.1 HSB.out.2.1 (by have:=HTA.out;have:=HMI.out;have:=HME.out;omega) (by have:=HTA.out;omega) hn mid en b HML.out (by have:=HTA.out;have:=HMI.out;have:=HME.out;omega) (by have:=HTA.out;omega));go_wp2_with fail;with_reducible refine HC.out.mono ?_
          rintro r9 w7⟨rfl,L,h1,h2,h3⟩;have HF:=qH (HFIN.out w7 L h1 h2 h3);clear h1 h2 h3;go_wp2;go_end0;exact HF.out
         ·have c0:s<m:=by omega
          have d0:(s:Int)<m:=by omega
          have c1:m<en:=by omega
          have d1:(m:Int)<en:=by omega
          have c2:a<s:=by omega
          have d2:(a:Int)<s:=by omega
          have c3:s<mid:=by omega
          have d3:(s:Int)<mid:=by omega
          have c4:mid<en:=by omega
          have d4:(mid:Int)<en:=by omega
          have c5: ¬en<b:=by omega
          have d5: ¬(en:Int)<b:=by omega
          have HC:=qH (rotate_any w0 wr base g n cap (X++A1) A2 B1 (B2++Y) HS2.out (by have:=HTA.out;omega) (by have:=HTA.out;have:=HME.out;omega) hn s m en HXS.out (by have:=HTA.out;omega) (by have:=HTA.out;have:=HME.out;omega) cmpV);go_wp2_with fail;with_reducible refine HC.out.mono ?_
          rintro r9 w5⟨rfl,hS9⟩;have HC1:=qH (show Srt w0 base g n cap (X++A1++B1++A2++(B2++Y)) w5 from hS9);clear hS9 HC;have HC:=qH (HIH.out w0 w5 base g n cap X A1 B1 (A2++(B2++Y)) (by have:=HTA.out;have:=HN2.out;omega) (by have:=HC1.out;simpa only[List.append_assoc]using this) HSA.out.1 HSB.out.1 (by have:=HTA.out;have:=HAS1.out;omega) (by have:=HTA.out;have:=HMI.out;omega) hn a s mid HXA.out (by have:=HTA.out;have:=HAS1.out;omega) (by have:=HTA.out;have:=HMI.out;omega));go_wp2_with fail;with_reducible refine HC.out.mono ?_
          rintro r9 w6⟨rfl,M,hM1,hM2,hM3⟩;have HM1:=qH hM1;have HM2:=qH hM2;have HM3:=qH hM3;clear hM1 hM2 hM3 HC;have HML:=qH (show(X++M).length=mid by have h1:=HM2.out.length_eq;have:=HTA.out;have:=HMI.out;have:=HAS1.out;have:=HXA.out;simp at h1⊢;omega);have HFIN:=qH (show∀(W:World)(L:List Ev),SortedE L→L.Perm (A2++B2)→Srt w0 base g n cap (X++M++L++Y) W→MrgPost w0 base g n cap X (A++B) Y (.returned (.tuple #[])) W from fun W L h1 h2 h3=>⟨rfl,M++L,(HMG.out M L HM1.out h1 HM2.out h2).1,(HMG.out M L HM1.out h1 HM2.out h2).2,by simpa only[List.append_assoc]using h3⟩);have HF:=qH (HFIN.out w6 (A2++B2) (sort_nil HSA.out.2.1 HSB.out.2.1 (by
           by_cases h2:mid<en;·exact .inr (HE1.out.2.2.2.2.2 (by omega))
           ·exact .inl (HE1.out.2.2.2.2.1 (by omega)))) (List.Perm.refl _) (by have:=HM3.out;simpa only[List.append_assoc]using this));go_wp2;go_end0;exact HF.out
        ·by_cases g4:en<b
         ·have c0:s<m:=by omega
          have d0:(s:Int)<m:=by omega
          have c1:m<en:=by omega
          have d1:(m:Int)<en:=by omega
          have c2: ¬a<s:=by omega
          have d2: ¬(a:Int)<s:=by omega
          have c3:mid<en:=by omega
          have d3:(mid:Int)<en:=by omega
          have c4:en<b:=by omega
          have d4:(en:Int)<b:=by omega
          have HC:=qH (rotate_any w0 wr base g n cap (X++A1) A2 B1 (B2++Y) HS2.out (by have:=HTA.out;omega) (by have:=HTA.out;have:=HME.out;omega) hn s m en HXS.out (by have:=HTA.out;omega) (by have:=HTA.out;have:=HME.out;omega) cmpV);go_wp2_with fail;with_reducible refine HC.out.mono ?_
          rintro r9 w5⟨rfl,hS9⟩;have HC1:=qH (show Srt w0 base g n cap (X++A1++B1++A2++(B2++Y)) w5 from hS9);clear hS9 HC;obtain⟨M,hM⟩: ∃M,M=A1++B1:=⟨_,rfl⟩;have HM1:=qH (show SortedE M by
           rw[hM];refine sort_nil HSA.out.1 HSB.out.1 ?_;by_cases h2:a<s;·exact .inr (HE1.out.2.2.2.1 (by omega))
           ·exact .inl (HE1.out.2.2.1 (by omega)));have HM2:=qH (show M.Perm (A1++B1)by rw[hM]);have HM3:=qH (show Srt w0 base g n cap (X++M++(A2++(B2++Y))) w5 by rw[hM];have:=HC1.out;simpa only[List.append_assoc]using this);clear hM;have HML:=qH (show(X++M).length=mid by have h1:=HM2.out.length_eq;have:=HTA.out;have:=HMI.out;have:=HAS1.out;have:=HXA.out;simp at h1⊢;omega);have HFIN:=qH (show∀(W:World)(L:List Ev),SortedE L→L.Perm (A2++B2)→Srt w0 base g n cap (X++M++L++Y) W→MrgPost w0 base g n cap X (A++B) Y (.returned (.tuple #[])) W from fun W L h1 h2 h3=>⟨rfl,M++L,(HMG.out M L HM1.out h1 HM2.out h2).1,(HMG.out M L HM1.out h1 HM2.out h2).2,by simpa only[List.append_assoc]using h3⟩);have HC:=qH (HIH.out w0 w5 base g n cap (X++M) A2 B2 Y (by have:=HTA.out;have:=HN2.out;omega) (by have:=HM3.out;simpa only[List.append_assoc]using this) HSA.out.2.1 HSB.out.2.1 (by have:=HTA.out;have:=HMI.out;have:=HME.out;omega) (by have:=HTA.out;omega) hn mid en b HML.out (by have:=HTA.out;have:=HMI.out;have:=HME.out;omega) (by have:=HTA.out;omega));go_wp2_with fail;with_reducible refine HC.out.mono ?_
          rintro r9 w7⟨rfl,L,h1,h2,h3⟩;have HF:=qH (HFIN.out w7 L h1 h2 h3);clear h1 h2 h3;go_wp2;go_end0;exact HF.out
         ·have c0:s<m:=by omega
          have d0:(s:Int)<m:=by omega
          have c1:m<en:=by omega
          have d1:(m:Int)<en:=by omega
          have c2: ¬a<s:=by omega
          have d2: ¬(a:Int)<s:=by omega
          have c3:mid<en:=by omega
          have d3:(mid:Int)<en:=by omega
          have c4: ¬en<b:=by omega
          have d4: ¬(en:Int)<b:=by omega
          have HC:=qH (rotate_any w0 wr base g n cap (X++A1) A2 B1 (B2++Y) HS2.out (by have:=HTA.out;omega) (by have:=HTA.out;have:=HME.out;omega) hn s m en HXS.out (by have:=HTA.out;omega) (by have:=HTA.out;have:=HME.out;omega) cmpV);go_wp2_with fail;with_reducible refine HC.out.mono ?_
          rintro r9 w5⟨rfl,hS9⟩;have HC1:=qH (show Srt w0 base g n cap (X++A1++B1++A2++(B2++Y)) w5 from hS9);clear hS9 HC;obtain⟨M,hM⟩: ∃M,M=A1++B1:=⟨_,rfl⟩;have HM1:=qH (show SortedE M by
           rw[hM];refine sort_nil HSA.out.1 HSB.out.1 ?_;by_cases h2:a<s;·exact .inr (HE1.out.2.2.2.1 (by omega))
           ·exact .inl (HE1.out.2.2.1 (by omega)));have HM2:=qH (show M.Perm (A1++B1)by rw[hM]);have HM3:=qH (show Srt w0 base g n cap (X++M++(A2++(B2++Y))) w5 by rw[hM];have:=HC1.out;simpa only[List.append_assoc]using this);clear hM;have HML:=qH (show(X++M).length=mid by have h1:=HM2.out.length_eq;have:=HTA.out;have:=HMI.out;have:=HAS1.out;have:=HXA.out;simp at h1⊢;omega);have HFIN:=qH (show∀(W:World)(L:List Ev),SortedE L→L.Perm (A2++B2)→Srt w0 base g n cap (X++M++L++Y) W→MrgPost w0 base g n cap X (A++B) Y (.returned (.tuple #[])) W from fun W L h1 h2 h3=>⟨rfl,M++L,(HMG.out M L HM1.out h1 HM2.out h2).1,(HMG.out M L HM1.out h1 HM2.out h2).2,by simpa only[List.append_assoc]using h3⟩);have HF:=qH (HFIN.out w5 (A2++B2) (sort_nil HSA.out.2.1 HSB.out.2.1 (by
           by_cases h2:mid<en;·exact .inr (HE1.out.2.2.2.2.2 (by omega))
           ·exact .inl (HE1.out.2.2.2.2.1 (by omega)))) (List.Perm.refl _) (by have:=HM3.out;simpa only[List.append_assoc]using this));go_wp2;go_end0;exact HF.out
       ·by_cases g3:a<s
        ·have c0:s<m:=by omega
         have d0:(s:Int)<m:=by omega
         have c1: ¬m<en:=by omega
         have d1: ¬(m:Int)<en:=by omega
         have c2:a<s:=by omega
         have d2:(a:Int)<s:=by omega
         have c3: ¬s<mid:=by omega
         have d3: ¬(s:Int)<mid:=by omega
         have c4:mid<en:=by omega
         have d4:(mid:Int)<en:=by omega
         have c5:en<b:=by omega
         have d5:(en:Int)<b:=by omega
         have HC1:=qH (show Srt w0 base g n cap (X++A1++B1++A2++(B2++Y)) wr by
          have h1:=HS2.out;by_cases h2:s<m;·rw[HE1.out.2.1 (by omega)]at h1⊢;simpa using h1
          ·rw[HE1.out.1 (by omega)]at h1⊢;simpa using h1);obtain⟨M,hM⟩: ∃M,M=A1++B1:=⟨_,rfl⟩;have HM1:=qH (show SortedE M by
          rw[hM];refine sort_nil HSA.out.1 HSB.out.1 ?_;by_cases h2:a<s;·exact .inr (HE1.out.2.2.2.1 (by omega))
          ·exact .inl (HE1.out.2.2.1 (by omega)));have HM2:=qH (show M.Perm (A1++B1)by rw[hM]);have HM3:=qH (show Srt w0 base g n cap (X++M++(A2++(B2++Y))) wr by rw[hM];have:=HC1.out;simpa only[List.append_assoc]using this);clear hM;have HML:=qH (show(X++M).length=mid by have h1:=HM2.out.length_eq;have:=HTA.out;have:=HMI.out;have:=HAS1.out;have:=HXA.out;simp at h1⊢;omega);have HFIN:=qH (show∀(W:World)(L:List Ev),SortedE L→L.Perm (A2++B2)→Srt w0 base g n cap (X++M++L++Y) W→MrgPost w0 base g n cap X (A++B) Y (.returned (.tuple #[])) W from fun W L h1 h2 h3=>⟨rfl,M++L,(HMG.out M L HM1.out h1 HM2.out h2).1,(HMG.out M L HM1.out h1 HM2.out h2).2,by simpa only[List.append_assoc]using h3⟩);have HC:=qH (HIH.out w0 wr base g n cap (X++M) A2 B2 Y (by have:=HTA.out;have:=HN2.out;omega) (by have:=HM3.out;simpa only[List.append_assoc]using this) HSA.out.2.1 HSB.out.2.1 (by have:=HTA.out;have:=HMI.out;have:=HME.out;omega) (by have:=HTA.out;omega) hn mid en b HML.out (by have:=HTA.out;have:=HMI.out;have:=HME.out;omega) (by have:=HTA.out;omega));go_wp2_with fail;with_reducible refine HC.out.mono ?_
         rintro r9 w7⟨rfl,L,h1,h2,h3⟩;have HF:=qH (HFIN.out w7 L h1 h2 h3);clear h1 h2 h3;go_wp2;go_end0;exact HF.out
        ·have c0:s<m:=by omega
         have d0:(s:Int)<m:=by omega
         have c1: ¬m<en:=by omega
         have d1: ¬(m:Int)<en:=by omega
         have c2: ¬a<s:=by omega
         have d2: ¬(a:Int)<s:=by omega
         have c3:mid<en:=by omega
         have d3:(mid:Int)<en:=by omega
         have c4:en<b:=by omega
         have d4:(en:Int)<b:=by omega
         have HC1:=qH (show Srt w0 base g n cap (X++A1++B1++A2++(B2++Y)) wr by
          have h1:=HS2.out;by_cases h2:s<m;·rw[HE1.out.2.1 (by omega)]at h1⊢;simpa using h1
          ·rw[HE1.out.1 (by omega)]at h1⊢;simpa using h1);obtain⟨M,hM⟩: ∃M,M=A1++B1:=⟨_,rfl⟩;have HM1:=qH (show SortedE M by
          rw[hM];refine sort_nil HSA.out.1 HSB.out.1 ?_;by_cases h2:a<s;·exact .inr (HE1.out.2.2.2.1 (by omega))
          ·exact .inl (HE1.out.2.2.1 (by omega)));have HM2:=qH (show M.Perm (A1++B1)by rw[hM]);have HM3:=qH (show Srt w0 base g n cap (X++M++(A2++(B2++Y))) wr by rw[hM];have:=HC1.out;simpa only[List.append_assoc]using this);clear hM;have HML:=qH (show(X++M).length=mid by have h1:=HM2.out.length_eq;have:=HTA.out;have:=HMI.out;have:=HAS1.out;have:=HXA.out;simp at h1⊢;omega);have HFIN:=qH (show∀(W:World)(L:List Ev),SortedE L→L.Perm (A2++B2)→Srt w0 base g n cap (X++M++L++Y) W→MrgPost w0 base g n cap X (A++B) Y (.returned (.tuple #[])) W from fun W L h1 h2 h3=>⟨rfl,M++L,(HMG.out M L HM1.out h1 HM2.out h2).1,(HMG.out M L HM1.out h1 HM2.out h2).2,by simpa only[List.append_assoc]using h3⟩);have HC:=qH (HIH.out w0 wr base g n cap (X++M) A2 B2 Y (by have:=HTA.out;have:=HN2.out;omega) (by have:=HM3.out;simpa only[List.append_assoc]using this) HSA.out.2.1 HSB.out.2.1 (by have:=HTA.out;have:=HMI.out;have:=HME.out;omega) (by have:=HTA.out;omega) hn mid en b HML.out (by have:=HTA.out;have:=HMI.out;have:=HME.out;omega) (by have:=HTA.out;omega));go_wp2_with fail;with_reducible refine HC.out.mono ?_
         rintro r9 w7⟨rfl,L,h1,h2,h3⟩;have HF:=qH (HFIN.out w7 L h1 h2 h3);clear h1 h2 h3;go_wp2;go_end0;exact HF.out
      ·by_cases g2:s<mid
       ·have c0: ¬s<m:=by omega
        have d0: ¬(s:Int)<m:=by omega
        have c1:a<s:=by omega
        have d1:(a:Int)<s:=by omega
        have c2:s<mid:=by omega
        have d2:(s:Int)<mid:=by omega
        have c3: ¬mid<en:=by omega
        have d3: ¬(mid:Int)<en:=by omega
        have HC1:=qH (show Srt w0 base g n cap (X++A1++B1++A2++(B2++Y)) wr by
         have h1:=HS2.out;by_cases h2:s<m;·rw[HE1.out.2.1 (by omega)]at h1⊢;simpa using h1
         ·rw[HE1.out.1 (by omega)]at h1⊢;simpa using h1);have HC:=qH (HIH.out w0 wr base g n cap X A1 B1 (A2++(B2++Y)) (by have:=HTA.out;have:=HN2.out;omega) (by have:=HC1.out;simpa only[List.append_assoc]using this) HSA.out.1 HSB.out.1 (by have:=HTA.out;have:=HAS1.out;omega) (by have:=HTA.out;have:=HMI.out;omega) hn a s mid HXA.out (by have:=HTA.out;have:=HAS1.out;omega) (by have:=HTA.out;have:=HMI.out;omega));go_wp2_with fail;with_reducible refine HC.out.mono ?_
        rintro r9 w6⟨rfl,M,hM1,hM2,hM3⟩;have HM1:=qH hM1;have HM2:=qH hM2;have HM3:=qH hM3;clear hM1 hM2 hM3 HC;have HML:=qH (show(X++M).length=mid by have h1:=HM2.out.length_eq;have:=HTA.out;have:=HMI.out;have:=HAS1.out;have:=HXA.out;simp at h1⊢;omega);have HFIN:=qH (show∀(W:World)(L:List Ev),SortedE L→L.Perm (A2++B2)→Srt w0 base g n cap (X++M++L++Y) W→MrgPost w0 base g n cap X (A++B) Y (.returned (.tuple #[])) W from fun W L h1 h2 h3=>⟨rfl,M++L,(HMG.out M L HM1.out h1 HM2.out h2).1,(HMG.out M L HM1.out h1 HM2.out h2).2,by simpa only[List.append_assoc]using h3⟩);have HF:=qH (HFIN.out w6 (A2++B2) (sort_nil HSA.out.2.1 HSB.out.2.1 (by
         by_cases h2:mid<en;·exact .inr (HE1.out.2.2.2.2.2 (by omega))
         ·exact .inl (HE1.out.2.2.2.2.1 (by omega)))) (List.Perm.refl _) (by have:=HM3.out;simpa only[List.append_assoc]using this));go_wp2;go_end0;exact HF.out
       ·have c0: ¬s<m:=by omega
        have d0: ¬(s:Int)<m:=by omega
        have c1:a<s:=by omega
        have d1:(a:Int)<s:=by omega
        have c2: ¬s<mid:=by omega
        have d2: ¬(s:Int)<mid:=by omega
        have c3: ¬mid<en:=by omega
        have d3: ¬(mid:Int)<en:=by omega
        have HC1:=qH (show Srt w0 base g n cap (X++A1++B1++A2++(B2++Y)) wr by
         have h1:=HS2.out;by_cases h2:s<m;·rw[HE1.out.2.1 (by omega)]at h1⊢;simpa using h1
         ·rw[HE1.out.1 (by omega)]at h1⊢;simpa using h1);obtain⟨M,hM⟩: ∃M,M=A1++B1:=⟨_,rfl⟩;have HM1:=qH (show SortedE M by
         rw[hM];refine sort_nil HSA.out.1 HSB.out.1 ?_;by_cases h2:a<s;·exact .inr (HE1.out.2.2.2.1 (by omega))
         ·exact .inl (HE1.out.2.2.1 (by omega)));have HM2:=qH (show M.Perm (A1++B1)by rw[hM]);have HM3:=qH (show Srt w0 base g n cap (X++M++(A2++(B2++Y))) wr by rw[hM];have:=HC1.out;simpa only[List.append_assoc]using this);clear hM;have HML:=qH (show(X++M).length=mid by have h1:=HM2.out.length_eq;have:=HTA.out;have:=HMI.out;have:=HAS1.out;have:=HXA.out;simp at h1⊢;omega);have HFIN:=qH (show∀(W:World)(L:List Ev),SortedE L→L.Perm (A2++B2)→Srt w0 base g n cap (X++M++L++Y) W→MrgPost w0 base g n cap X (A++B) Y (.returned (.tuple #[])) W from fun W L h1 h2 h3=>⟨rfl,M++L,(HMG.out M L HM1.out h1 HM2.out h2).1,(HMG.out M L HM1.out h1 HM2.out h2).2,by simpa only[List.append_assoc]using h3⟩);have HF:=qH (HFIN.out wr (A2++B2) (sort_nil HSA.out.2.1 HSB.out.2.1 (by
         by_cases h2:mid<en;·exact .inr (HE1.out.2.2.2.2.2 (by omega))
         ·exact .inl (HE1.out.2.2.2.2.1 (by omega)))) (List.Perm.refl _) (by have:=HM3.out;simpa only[List.append_assoc]using this));go_wp2;go_end0;exact HF.out
   ·have t0: ¬(mid:Int)<m:=by omega
    have t0': ¬mid<m:=hmm;obtain⟨st,hst⟩: ∃st,st=a:=⟨_,rfl⟩;have HU0:=qH (show st=a∨st+b=nn from .inl hst);obtain⟨rr,hrr⟩: ∃rr,rr=m:=⟨_,rfl⟩;have HR0:=qH (show rr=mid∨rr=m from .inr hrr);have hast:a≤st:=by omega
    have hstr:st≤rr:=by omega
    have hrm:rr≤m:=by omega
    have hrmid:rr≤mid:=by omega
    have hnst:nn≤st+b:=by omega
    clear hnn hpp hhh ha hm hb hN hA hB ih hh1 hlen hA1 hB1 hAm hBm hmidm h hmid;go_enter Tryz.func177,Tryz.ntmps177;go_wp2;clear s0 s1 s3 b0 b1 t0 t0';have HH:=qH (show SyRel w0 base g n cap (X++A++B++Y) A B a m nn st rr (.int .i64 (a:Int)) (.int .i64 (m:Int)) w from⟨st,rr,by rw[hst],by rw[hrr],Nat.le_refl _,hstr,Nat.le_refl _,(fun x y h0=>by omega),(fun x y h0=>by omega),HS0.out⟩);clear HS0 hrr hst;go_loopw[20,21](fun i j wr=>SyRel w0 base g n cap (X++A++B++Y) A B a m nn st rr i j wr)(fun i j _=>(intOf j-intOf i).toNat);case atStart=>exact HH.out
    case round=>
     obtain⟨s,r,rfl,rfl,hss,hsr,hrr',hlo,hhi,hS⟩:=hrel;have HS:=qH hS;have HLO:=qH hlo;have HHI:=qH hhi;clear hlo hhi hS HH;by_cases hlt:s<r
     ·have t1:(s:Int)<r:=by omega
      obtain⟨cc,hcc⟩: ∃cc,cc=(s+r)/2:=⟨_,rfl⟩;obtain⟨u,hu⟩: ∃u,u=cc-a:=⟨_,rfl⟩;obtain⟨pc,hpc⟩: ∃pc,pc=pp-cc:=⟨_,rfl⟩;obtain⟨v,hv⟩: ∃v,v=pc-m:=⟨_,rfl⟩;have hNN:=HMM.out;have hPP:=HPP.out;have hAL:=HAL.out;have hBL:=HBL.out;have hc1:s≤cc∧cc<r:=by omega
      have huA:u<A.length:=by omega
      have hvB:v<B.length:=by omega
      have hmv:m+v=pc:=by omega
      have hau:a+u=cc:=by omega
      have hccn:(cc:Int)<n:=by omega
      have hpcn:(pc:Int)<n:=by omega
      have hxa:=HXA.out;have hxm:=HM.out;have HEV1:=qH (show∀W,Srt w0 base g n cap (X++A++B++Y) W→EvAt W g (pc*8) B[v]from fun W hW=>at_parts (X:=X++A) (A:=B) (R:=Y) (by simpa only[List.append_assoc]using hW) hvB (by rw[List.length_append];omega));have HEV2:=qH (show∀W,Srt w0 base g n cap (X++A++B++Y) W→EvAt W g (cc*8) A[u]from fun W hW=>at_parts (X:=X) (A:=A) (R:=B++Y) (by simpa only[List.append_assoc]using hW) huA (by omega));have HR1:=qH (show∀W,¬LtE B[v] A[u]→Srt w0 base g n cap (X++A++B++Y) W→SyRel w0 base g n cap (X++A++B++Y) A B a m nn st rr (.int .i64 ((cc:Int)+1)) (.int .i64 (r:Int)) W from fun W hl hW=>⟨cc+1,r,by congr 1,rfl,by omega,by omega,hrr',fun x y _ hx hy=>by rw[show cc+1-1-a=u by omega,List.getElem?_eq_getElem huA]at hx;rw[show nn-(cc+1)-m=v by omega,List.getElem?_eq_getElem hvB]at hy;injection hx with hx;injection hy with hy;rw[←hx,←hy];exact hl,HHI.out,hW⟩);have HR2:=qH (show∀W,LtE B[v] A[u]→Srt w0 base g n cap (X++A++B++Y) W→SyRel w0 base g n cap (X++A++B++Y) A B a m nn st rr (.int .i64 (s:Int)) (.int .i64 (cc:Int)) W from fun W hl hW=>⟨s,cc,rfl,rfl,hss,by omega,by omega,HLO.out,fun x y _ hx hy=>by rw[show cc-a=u by omega,List.getElem?_eq_getElem huA]at hx;rw[show nn-1-cc-m=v by omega,List.getElem?_eq_getElem hvB]at hy;injection hx with hx;injection hy with hy;rw[←hx,←hy];exact hl,hW⟩);have s0:((s:Int)+(r:Int))/2=(cc:Int):=by omega
      obtain⟨s4,s5⟩:(pp:Int)-(cc:Int)=(pc:Int)∧IntKind.i64.wrap (pc:Int)=(pc:Int):=⟨by omega,IntWalk.i64_in _ (by omega)⟩;have hscc:s≤cc:=hc1.1;have hccr:cc<r:=hc1.2;generalize B[v]=y at*;generalize A[u]=x at*;generalize X++A++B++Y=LL at*;clear hcc hu hpc hv hNN hPP hAL hBL huA hvB hmv hau hxa hxm hc1;have HCM:=qH (show∀W,Calls Tryz.prog 61 #[.agg #[.string ⟨y.src.toArray⟩,.int .i64 y.num,.int .i64 y.at_,.int .i64 y.kind,.string ⟨y.per.toArray⟩,.string ⟨y.item.toArray⟩,.int .i64 y.val,.string ⟨y.text.toArray⟩],.agg #[.string ⟨x.src.toArray⟩,.int .i64 x.num,.int .i64 x.at_,.int .i64 x.kind,.string ⟨x.per.toArray⟩,.string ⟨x.item.toArray⟩,.int .i64 x.val,.string ⟨x.text.toArray⟩]] W fun e w'=>e=.returned (.int .i64 (cmpE y x))∧Below W.heap.size W w' from fun W=>compare_any W y x);by_cases hl:cmpE y x<0
      ·have HLT:=qH (cmpE_neg.1 hl);have hl2:(!decide (cmpE y x<0))=false:=by rw[decide_eq_true hl];rfl
       go_wp2;clear s0;have HSS:=qH (show∀W:World,Srt w0 base g n cap LL W→(W.cell? ⟨g,pc*8,none⟩=some (.string ⟨y.src.toArray⟩)∧W.cell? ⟨g,pc*8+1,none⟩=some (.int .i64 y.num)∧W.cell? ⟨g,pc*8+2,none⟩=some (.int .i64 y.at_)∧W.cell? ⟨g,pc*8+3,none⟩=some (.int .i64 y.kind)∧W.cell? ⟨g,pc*8+4,none⟩=some (.string ⟨y.per.toArray⟩)∧W.cell? ⟨g,pc*8+5,none⟩=some (.string ⟨y.item.toArray⟩)∧W.cell? ⟨g,pc*8+6,none⟩=some (.int .i64 y.val)∧W.cell? ⟨g,pc*8+7,none⟩=some (.string ⟨y.text.toArray⟩)∧W.cell? ⟨g,cc*8,none⟩=some (.string ⟨x.src.toArray⟩)∧W.cell? ⟨g,cc*8+1,none⟩=some (.int .i64 x.num)∧W.cell? ⟨g,cc*8+2,none⟩=some (.int .i64 x.at_)∧W.cell? ⟨g,cc*8+3,none⟩=some (.int .i64 x.kind)∧W.cell? ⟨g,cc*8+4,none⟩=some (.string ⟨x.per.toArray⟩)∧W.cell? ⟨g,cc*8+5,none⟩=some (.string ⟨x.item.toArray⟩)∧W.cell? ⟨g,cc*8+6,none⟩=some (.int .i64 x.val)∧W.cell? ⟨g,cc*8+7,none⟩=some (.string ⟨x.text.toArray⟩))from fun W hW=>by obtain⟨a0,a1,a2,a3,a4,a5,a6,a7⟩:=HEV1.out W hW;obtain⟨b0,b1,b2,b3,b4,b5,b6,b7⟩:=HEV2.out W hW;exact⟨a0,a1,a2,a3,a4,a5,a6,a7,b0,b1,b2,b3,b4,b5,b6,b7⟩);have HX:=qH (HS.out.drewN 1);have hS:=HSS.out _ HS.out;go_region_held3(fun W=>W.cell? ⟨g,pc*8,none⟩=some (.string ⟨y.src.toArray⟩)∧W.cell? ⟨g,pc*8+1,none⟩=some (.int .i64 y.num)∧W.cell? ⟨g,pc*8+2,none⟩=some (.int .i64 y.at_)∧W.cell? ⟨g,pc*8+3,none⟩=some (.int .i64 y.kind)∧W.cell? ⟨g,pc*8+4,none⟩=some (.string ⟨y.per.toArray⟩)∧W.cell? ⟨g,pc*8+5,none⟩=some (.string ⟨y.item.toArray⟩)∧W.cell? ⟨g,pc*8+6,none⟩=some (.int .i64 y.val)∧W.cell? ⟨g,pc*8+7,none⟩=some (.string ⟨y.text.toArray⟩)∧W.cell? ⟨g,cc*8,none⟩=some (.string ⟨x.src.toArray⟩)∧W.cell? ⟨g,cc*8+1,none⟩=some (.int .i64 x.num)∧W.cell? ⟨g,cc*8+2,none⟩=some (.int .i64 x.at_)∧W.cell? ⟨g,cc*8+3,none⟩=some (.int .i64 x.kind)∧W.cell? ⟨g,cc*8+4,none⟩=some (.string ⟨x.per.toArray⟩)∧W.cell? ⟨g,cc*8+5,none⟩=some (.string ⟨x.item.toArray⟩)∧W.cell? ⟨g,cc*8+6,none⟩=some (.int .i64 x.val)∧W.cell? ⟨g,cc*8+7,none⟩=some (.string ⟨x.text.toArray⟩))(first|assumption|exact HSS.out _ HX.out|go_keep)((go_at_call 61;(with_reducible refine(HCM.out _).mono ?_);rintro r9 w9⟨rfl,hb9⟩;have HX2:=qH (HX.out.up hb9);clear HX;have HX:=HX2;clear HX2;(try clear hS);have hS:=HSS.out _ HX.out;clear hb9));clear hS HSS HCM HEV1 HEV2;have HRR:=qH (HR2.out _ HLT.out HX.out);clear HX s4 s5;go_wp2;go_roundw;case rel=>exact HRR.out
       case measure=>simp[intOf];omega
      ·have HLT:=qH (show¬LtE y x from fun h=>hl (cmpE_neg.2 h));have hl2:(!decide (cmpE y x<0))=true:=by rw[decide_eq_false hl];rfl
       go_wp2;clear s0;have HSS:=qH (show∀W:World,Srt w0 base g n cap LL W→(W.cell? ⟨g,pc*8,none⟩=some (.string ⟨y.src.toArray⟩)∧W.cell? ⟨g,pc*8+1,none⟩=some (.int .i64 y.num)∧W.cell? ⟨g,pc*8+2,none⟩=some (.int .i64 y.at_)∧W.cell? ⟨g,pc*8+3,none⟩=some (.int .i64 y.kind)∧W.cell? ⟨g,pc*8+4,none⟩=some (.string ⟨y.per.toArray⟩)∧W.cell? ⟨g,pc*8+5,none⟩=some (.string ⟨y.item.toArray⟩)∧W.cell? ⟨g,pc*8+6,none⟩=some (.int .i64 y.val)∧W.cell? ⟨g,pc*8+7,none⟩=some (.string ⟨y.text.toArray⟩)∧W.cell? ⟨g,cc*8,none⟩=some (.string ⟨x.src.toArray⟩)∧W.cell? ⟨g,cc*8+1,none⟩=some (.int .i64 x.num)∧W.cell? ⟨g,cc*8+2,none⟩=some (.int .i64 x.at_)∧W.cell? ⟨g,cc*8+3,none⟩=some (.int .i64 x.kind)∧W.cell? ⟨g,cc*8+4,none⟩=some (.string ⟨x.per.toArray⟩)∧W.cell? ⟨g,cc*8+5,none⟩=some (.string ⟨x.item.toArray⟩)∧W.cell? ⟨g,cc*8+6,none⟩=some (.int .i64 x.val)∧W.cell? ⟨g,cc*8+7,none⟩=some (.string ⟨x.text.toArray⟩))from fun W hW=>by obtain⟨a0,a1,a2,a3,a4,a5,a6,a7⟩:=HEV1.out W hW;obtain⟨b0,b1,b2,b3,b4,b5,b6,b7⟩:=HEV2.out W hW;exact⟨a0,a1,a2,a3,a4,a5,a6,a7,b0,b1,b2,b3,b4,b5,b6,b7⟩);have HX:=qH (HS.out.drewN 1);have hS:=HSS.out _ HS.out;go_region_held3(fun W=>W.cell? ⟨g,pc*8,none⟩=some (.string ⟨y.src.toArray⟩)∧W.cell? ⟨g,pc*8+1,none⟩=some (.int .i64 y.num)∧W.cell? ⟨g,pc*8+2,none⟩=some (.int .i64 y.at_)∧W.cell? ⟨g,pc*8+3,none⟩=some (.int .i64 y.kind)∧W.cell? ⟨g,pc*8+4,none⟩=some (.string ⟨y.per.toArray⟩)∧W.cell? ⟨g,pc*8+5,none⟩=some (.string ⟨y.item.toArray⟩)∧W.cell? ⟨g,pc*8+6,none⟩=some (.int .i64 y.val)∧W.cell? ⟨g,pc*8+7,none⟩=some (.string ⟨y.text.toArray⟩)∧W.cell? ⟨g,cc*8,none⟩=some (.string ⟨x.src.toArray⟩)∧W.cell? ⟨g,cc*8+1,none⟩=some (.int .i64 x.num)∧W.cell? ⟨g,cc*8+2,none⟩=some (.int .i64 x.at_)∧W.cell? ⟨g,cc*8+3,none⟩=some (.int .i64 x.kind)∧W.cell? ⟨g,cc*8+4,none⟩=some (.string ⟨x.per.toArray⟩)∧W.cell? ⟨g,cc*8+5,none⟩=some (.string ⟨x.item.toArray⟩)∧W.cell? ⟨g,cc*8+6,none⟩=some (.int .i64 x.val)∧W.cell? ⟨g,cc*8+7,none⟩=some (.string ⟨x.text.toArray⟩))(first|assumption|exact HSS.out _ HX.out|go_keep)((go_at_call 61;(with_reducible refine(HCM.out _).mono ?_);rintro r9 w9⟨rfl,hb9⟩;have HX2:=qH (HX.out.up hb9);clear HX;have HX:=HX2;clear HX2;(try clear hS);have hS:=HSS.out _ HX.out;clear hb9));clear hS HSS HCM HEV1 HEV2;have HRR:=qH (HR1.out _ HLT.out HX.out);clear HX s4 s5;go_wp2;go_roundw;case rel=>exact HRR.out
       case measure=>simp[intOf];omega
     ·have hse:r=s:=by omega
      have t1: ¬(s:Int)<r:=by omega
      obtain⟨a1,ha1⟩: ∃a1,a1=s-a:=⟨_,rfl⟩;obtain⟨en,hen⟩: ∃en,en=nn-s:=⟨_,rfl⟩;obtain⟨b1,hb1⟩: ∃b1,b1=en-m:=⟨_,rfl⟩;have hNN:=HMM.out;have hPP:=HPP.out;have hAL:=HAL.out;have hBL:=HBL.out;have hxa:=HXA.out;have hxm:=HM.out;have hbb:=HBB.out;have has1:a+a1=s:=by omega
      have hmen:m+b1=en:=by omega
      have henb:en≤b:=by omega
      have hmidab:mid=s+b1:=by omega
      have henm:mid+(m-s)=en:=by omega
      have HPT:=qH (show Parts A B a1 b1 from⟨by omega,by omega,fun h1 h2=>by
       have hst':st<s:=by rcases HU0.out with h3|h3<;>omega
       exact HLO.out _ _ hst' (by rw[show s-1-a=a1-1 by omega];exact List.getElem?_eq_getElem _) (by rw[show nn-s-m=b1 by omega];exact List.getElem?_eq_getElem h2),fun h1 h2=>by
       have hrr2:r<rr:=by rcases HR0.out with h3|h3<;>omega
       exact(HHI.out _ _ hrr2 (by rw[show r-a=a1 by omega];exact List.getElem?_eq_getElem h2) (by rw[show nn-1-r-m=b1-1 by omega];exact List.getElem?_eq_getElem _)).le⟩);have HL1:=qH (HPT.out.le1 HA.out HB.out);have HL2:=qH (HPT.out.le2 HA.out HB.out);have hla:a1≤A.length:=HPT.out.la;have hlb:b1≤B.length:=HPT.out.lb;have HTA:=qH (show(A.take a1).length=a1∧(A.drop a1).length=m-s∧(B.take b1).length=b1∧(B.drop b1).length=b-en by simp;omega);have HAE:=qH (show A.take a1++A.drop a1=A from List.take_append_drop a1 A);have HBE:=qH (show B.take b1++B.drop b1=B from List.take_append_drop b1 B);have HSA:=qH (sorted_append.1 (show SortedE (A.take a1++A.drop a1)by rw[HAE.out];exact HA.out));have HSB:=qH (sorted_append.1 (show SortedE (B.take b1++B.drop b1)by rw[HBE.out];exact HB.out));have HN2:=qH (show a1+b1≤N∧(m-s)+(b-en)≤N by have:=HN.out;omega);have HMG:=qH (show∀M L:List Ev,SortedE M→SortedE L→M.Perm (A.take a1++B.take b1)→L.Perm (A.drop a1++B.drop b1)→SortedE (M++L)∧(M++L).Perm (A++B)from fun M L h1 h2 h3 h4=>merge_parts HA.out HB.out HAE.out.symm HBE.out.symm HL1.out HL2.out h1 h2 h3 h4);have HS2:=qH (show Srt w0 base g n cap (X++A.take a1++A.drop a1++B.take b1++(B.drop b1++Y)) wr by have h1:=HS.out;rw[←HAE.out,←HBE.out]at h1;simpa only[List.append_assoc]using h1);have s5:(nn:Int)-s=(en:Int):=by omega
      have hasx:a≤s:=by omega
      have hsm:s≤m:=by omega
      have hmen':m≤en:=by omega
      have hsmid:s≤mid:=by omega
      have hmiden:mid≤en:=by omega
      have HE1:=qH (show(s=m→A.drop a1=[])∧(m=en→B.take b1=[])∧(a=s→A.take a1=[])∧(s=mid→B.take b1=[])∧(mid=en→A.drop a1=[])∧(en=b→B.drop b1=[])from⟨fun h=>List.eq_nil_of_length_eq_zero (by have:=HTA.out;omega),fun h=>List.eq_nil_of_length_eq_zero (by have:=HTA.out;omega),fun h=>List.eq_nil_of_length_eq_zero (by have:=HTA.out;omega),fun h=>List.eq_nil_of_length_eq_zero (by have:=HTA.out;omega),fun h=>List.eq_nil_of_length_eq_zero (by have:=HTA.out;omega),fun h=>List.eq_nil_of_length_eq_zero (by have:=HTA.out;omega)⟩);have HXS:=qH (show(X++A.take a1).length=s by rw[List.length_append];have:=HTA.out.1;omega);have HAS1:=qH has1;have HME:=qH hmen;have HMI:=qH hmidab;clear HS HLO HHI HL1 HL2 HPT ha1 hen hb1 hNN hPP hAL hBL hxa hxm hbb has1 hmen hmidab henm hla hlb hse HN;generalize A.take a1=A1 at*;generalize A.drop a1=A2 at*;generalize B.take b1=B1 at*;generalize B.drop b1=B2 at*;have hmi1:mid≤s+b1:=by have:=HMI.out;omega
      have hmi2:s+b1≤mid:=by have:=HMI.out;omega
      have hme1:m+b1≤en:=by have:=HME.out;omega
      have hme2:en≤m+b1:=by have:=HME.out;omega
      by_cases g1:s<m
      ·by_cases g2:m<en
       ·by_cases g3:a<s
        ·by_cases g4:en<b
         ·have c0:s<m:=by omega
          have d0:(s:Int)<m:=by omega
          have c1:m<en:=by omega
          have d1:(m:Int)<en:=by omega
          have c2:a<s:=by omega
          have d2:(a:Int)<s:=by omega
          have c3:s<mid:=by omega
          have d3:(s:Int)<mid:=by omega
          have c4:mid<en:=by omega
          have d4:(mid:Int)<en:=by omega
          have c5:en<b:=by omega
          have d5:(en:Int)<b:=by omega
          have HC:=qH (rotate_any w0 wr base g n cap (X++A1) A2 B1 (B2++Y) HS2.out (by have:=HTA.out;omega) (by have:=HTA.out;have:=HME.out;omega) hn s m en HXS.out (by have:=HTA.out;omega) (by have:=HTA.out;have:=HME.out;omega) cmpV);go_wp2_with fail;with_reducible refine HC.out.mono ?_
          rintro r9 w5⟨rfl,hS9⟩;have HC1:=qH (show Srt w0 base g n cap (X++A1++B1++A2++(B2++Y)) w5 from hS9);clear hS9 HC;have HC:=qH (HIH.out w0 w5 base g n cap X A1 B1 (A2++(B2++Y)) (by have:=HTA.out;have:=HN2.out;omega) (by have:=HC1.out;simpa only[List.append_assoc]using this) HSA.out.1 HSB.out.1 (by have:=HTA.out;have:=HAS1.out;omega) (by have:=HTA.out;have:=HMI.out;omega) hn a s mid HXA.out (by have:=HTA.out;have:=HAS1.out;omega) (by have:=HTA.out;have:=HMI.out;omega));go_wp2_with fail;with_reducible refine HC.out.mono ?_
          rintro r9 w6⟨rfl,M,hM1,hM2,hM3⟩;have HM1:=qH hM1;have HM2:=qH hM2;have HM3:=qH hM3;clear hM1 hM2 hM3 HC;have HML:=qH (show(X++M).length=mid by have h1:=HM2.out.length_eq;have:=HTA.out;have:=HMI.out;have:=HAS1.out;have:=HXA.out;simp at h1⊢;omega);have HFIN:=qH (show∀(W:World)(L:List Ev),SortedE L→L.Perm (A2++B2)→Srt w0 base g n cap (X++M++L++Y) W→MrgPost w0 base g n cap X (A++B) Y (.returned (.tuple #[])) W from fun W L h1 h2 h3=>⟨rfl,M++L,(HMG.out M L HM1.out h1 HM2.out h2).1,(HMG.out M L HM1.out h1 HM2.out h2).2,by simpa only[List.append_assoc]using h3⟩);have HC:=qH (HIH.out w0 w6 base g n cap (X++M) A2 B2 Y (by have:=HTA.out;have:=HN2.out;omega) (by have:=HM3.out;simpa only[List.append_assoc]using this) HSA.out.2.1 HSB.out.2.1 (by have:=HTA.out;have:=HMI.out;have:=HME.out;omega) (by have:=HTA.out;omega) hn mid en b HML.out (by have:=HTA.out;have:=HMI.out;have:=HME.out;omega) (by have:=HTA.out;omega));go_wp2_with fail;with_reducible refine HC.out.mono ?_
          rintro r9 w7⟨rfl,L,h1,h2,h3⟩;have HF:=qH (HFIN.out w7 L h1 h2 h3);clear h1 h2 h3;go_wp2;go_end0;exact HF.out
         ·have c0:s<m:=by omega
          have d0:(s:Int)<m:=by omega
          have c1:m<en:=by omega
          have d1:(m:Int)<en:=by omega
          have c2:a<s:=by omega
          have d2:(a:Int)<s:=by omega
          have c3:s<mid:=by omega
          have d3:(s:Int)<mid:=by omega
          have c4:mid<en:=by omega
          have d4:(mid:Int)<en:=by omega
          have c5: ¬en<b:=by omega
          have d5: ¬(en:Int)<b:=by omega
          have HC:=qH (rotate_any w0 wr base g n cap (X++A1) A2 B1 (B2++Y) HS2.out (by have:=HTA.out;omega) (by have:=HTA.out;have:=HME.out;omega) hn s m en HXS.out (by have:=HTA.out;omega) (by have:=HTA.out;have:=HME.out;omega) cmpV);go_wp2_with fail;with_reducible refine HC.out.mono ?_
          rintro r9 w5⟨rfl,hS9⟩;have HC1:=qH (show Srt w0 base g n cap (X++A1++B1++A2++(B2++Y)) w5 from hS9);clear hS9 HC;have HC:=qH (HIH.out w0 w5 base g n cap X A1 B1 (A2++(B2++Y)) (by have:=HTA.out;have:=HN2.out;omega) (by have:=HC1.out;simpa only[List.append_assoc]using this) HSA.out.1 HSB.out.1 (by have:=HTA.out;have:=HAS1.out;omega) (by have:=HTA.out;have:=HMI.out;omega) hn a s mid HXA.out (by have:=HTA.out;have:=HAS1.out;omega) (by have:=HTA.out;have:=HMI.out;omega));go_wp2_with fail;with_reducible refine HC.out.mono ?_
          rintro r9 w6⟨rfl,M,hM1,hM2,hM3⟩;have HM1:=qH hM1;have HM2:=qH hM2;have HM3:=qH hM3;clear hM1 hM2 hM3 HC;have HML:=qH (show(X++M).length=mid by have h1:=HM2.out.length_eq;have:=HTA.out;have:=HMI.out;have:=HAS1.out;have:=HXA.out;simp at h1⊢;omega);have HFIN:=qH (show∀(W:World)(L:List Ev),SortedE L→L.Perm (A2++B2)→Srt w0 base g n cap (X++M++L++Y) W→MrgPost w0 base g n cap X (A++B) Y (.returned (.tuple #[])) W from fun W L h1 h2 h3=>⟨rfl,M++L,(HMG.out M L HM1.out h1 HM2.out h2).1,(HMG.out M L HM1.out h1 HM2.out h2).2,by simpa only[List.append_assoc]using h3⟩);have HF:=qH (HFIN.out w6 (A2++B2) (sort_nil HSA.out.2.1 HSB.out.2.1 (by
           by_cases h2:mid<en;·exact .inr (HE1.out.2.2.2.2.2 (by omega))
           ·exact .inl (HE1.out.2.2.2.2.1 (by omega)))) (List.Perm.refl _) (by have:=HM3.out;simpa only[List.append_assoc]using this));go_wp2;go_end0;exact HF.out
        ·by_cases g4:en<b
         ·have c0:s<m:=by omega
          have d0:(s:Int)<m:=by omega
          have c1:m<en:=by omega
          have d1:(m:Int)<en:=by omega
          have c2: ¬a<s:=by omega
          have d2: ¬(a:Int)<s:=by omega
          have c3:mid<en:=by omega
          have d3:(mid:Int)<en:=by omega
          have c4:en<b:=by omega
          have d4:(en:Int)<b:=by omega
          have HC:=qH (rotate_any w0 wr base g n cap (X++A1) A2 B1 (B2++Y) HS2.out (by have:=HTA.out;omega) (by have:=HTA.out;have:=HME.out;omega) hn s m en HXS.out (by have:=HTA.out;omega) (by have:=HTA.out;have:=HME.out;omega) cmpV);go_wp2_with fail;with_reducible refine HC.out.mono ?_
          rintro r9 w5⟨rfl,hS9⟩;have HC1:=qH (show Srt w0 base g n cap (X++A1++B1++A2++(B2++Y)) w5 from hS9);clear hS9 HC;obtain⟨M,hM⟩: ∃M,M=A1++B1:=⟨_,rfl⟩;have HM1:=qH (show SortedE M by
           rw[hM];refine sort_nil HSA.out.1 HSB.out.1 ?_;by_cases h2:a<s;·exact .inr (HE1.out.2.2.2.1 (by omega))
           ·exact .inl (HE1.out.2.2.1 (by omega)));have HM2:=qH (show M.Perm (A1++B1)by rw[hM]);have HM3:=qH (show Srt w0 base g n cap (X++M++(A2++(B2++Y))) w5 by rw[hM];have:=HC1.out;simpa only[List.append_assoc]using this);clear hM;have HML:=qH (show(X++M).length=mid by have h1:=HM2.out.length_eq;have:=HTA.out;have:=HMI.out;have:=HAS1.out;have:=HXA.out;simp at h1⊢;omega);have HFIN:=qH (show∀(W:World)(L:List Ev),SortedE L→L.Perm (A2++B2)→Srt w0 base g n cap (X++M++L++Y) W→MrgPost w0 base g n cap X (A++B) Y (.returned (.tuple #[])) W from fun W L h1 h2 h3=>⟨rfl,M++L,(HMG.out M L HM1.out h1 HM2.out h2).1,(HMG.out M L HM1.out h1 HM2.out h2).2,by simpa only[List.append_assoc]using h3⟩);have HC:=qH (HIH.out w0 w5 base g n cap (X++M) A2 B2 Y (by have:=HTA.out;have:=HN2.out;omega) (by have:=HM3.out;simpa only[List.append_assoc]using this) HSA.out.2.1 HSB.out.2.1 (by have:=HTA.out;have:=HMI.out;have:=HME.out;omega) (by have:=HTA.out;omega) hn mid en b HML.out (by have:=HTA.out;have:=HMI.out;have:=HME.out;omega) (by have:=HTA.out;omega));go_wp2_with fail;with_reducible refine HC.out.mono ?_
          rintro r9 w7⟨rfl,L,h1,h2,h3⟩;have HF:=qH (HFIN.out w7 L h1 h2 h3);clear h1 h2 h3;go_wp2;go_end0;exact HF.out
         ·have c0:s<m:=by omega
          have d0:(s:Int)<m:=by omega
          have c1:m<en:=by omega
          have d1:(m:Int)<en:=by omega
          have c2: ¬a<s:=by omega
          have d2: ¬(a:Int)<s:=by omega
          have c3:mid<en:=by omega
          have d3:(mid:Int)<en:=by omega
          have c4: ¬en<b:=by omega
          have d4: ¬(en:Int)<b:=by omega
          have HC:=qH (rotate_any w0 wr base g n cap (X++A1) A2 B1 (B2++Y) HS2.out (by have:=HTA.out;omega) (by have:=HTA.out;have:=HME.out;omega) hn s m en HXS.out (by have:=HTA.out;omega) (by have:=HTA.out;have:=HME.out;omega) cmpV);go_wp2_with fail;with_reducible refine HC.out.mono ?_
          rintro r9 w5⟨rfl,hS9⟩;have HC1:=qH (show Srt w0 base g n cap (X++A1++B1++A2++(B2++Y)) w5 from hS9);clear hS9 HC;obtain⟨M,hM⟩: ∃M,M=A1++B1:=⟨_,rfl⟩;have HM1:=qH (show SortedE M by
           rw[hM];refine sort_nil HSA.out.1 HSB.out.1 ?_;by_cases h2:a<s;·exact .inr (HE1.out.2.2.2.1 (by omega))
           ·exact .inl (HE1.out.2.2.1 (by omega)));have HM2:=qH (show M.Perm (A1++B1)by rw[hM]);have HM3:=qH (show Srt w0 base g n cap (X++M++(A2++(B2++Y))) w5 by rw[hM];have:=HC1.out;simpa only[List.append_assoc]using this);clear hM;have HML:=qH (show(X++M).length=mid by have h1:=HM2.out.length_eq;have:=HTA.out;have:=HMI.out;have:=HAS1.out;have:=HXA.out;simp at h1⊢;omega);have HFIN:=qH (show∀(W:World)(L:List Ev),SortedE L→L.Perm (A2++B2)→Srt w0 base g n cap (X++M++L++Y) W→MrgPost w0 base g n cap X (A++B) Y (.returned (.tuple #[])) W from fun W L h1 h2 h3=>⟨rfl,M++L,(HMG.out M L HM1.out h1 HM2.out h2).1,(HMG.out M L HM1.out h1 HM2.out h2).2,by simpa only[List.append_assoc]using h3⟩);have HF:=qH (HFIN.out w5 (A2++B2) (sort_nil HSA.out.2.1 HSB.out.2.1 (by
           by_cases h2:mid<en;·exact .inr (HE1.out.2.2.2.2.2 (by omega))
           ·exact .inl (HE1.out.2.2.2.2.1 (by omega)))) (List.Perm.refl _) (by have:=HM3.out;simpa only[List.append_assoc]using this));go_wp2;go_end0;exact HF.out
       ·by_cases g3:a<s
        ·have c0:s<m:=by omega
         have d0:(s:Int)<m:=by omega
         have c1: ¬m<en:=by omega
         have d1: ¬(m:Int)<en:=by omega
         have c2:a<s:=by omega
         have d2:(a:Int)<s:=by omega
         have c3: ¬s<mid:=by omega
         have d3: ¬(s:Int)<mid:=by omega
         have c4:mid<en:=by omega
         have d4:(mid:Int)<en:=by omega
         have c5:en<b:=by omega
         have d5:(en:Int)<b:=by omega
         have HC1:=qH (show Srt w0 base g n cap (X++A1++B1++A2++(B2++Y)) wr by
          have h1:=HS2.out;by_cases h2:s<m;·rw[HE1.out.2.1 (by omega)]at h1⊢;simpa using h1
          ·rw[HE1.out.1 (by omega)]at h1⊢;simpa using h1);obtain⟨M,hM⟩: ∃M,M=A1++B1:=⟨_,rfl⟩;have HM1:=qH (show SortedE M by
          rw[hM];refine sort_nil HSA.out.1 HSB.out.1 ?_;by_cases h2:a<s;·exact .inr (HE1.out.2.2.2.1 (by omega))
          ·exact .inl (HE1.out.2.2.1 (by omega)));have HM2:=qH (show M.Perm (A1++B1)by rw[hM]);have HM3:=qH (show Srt w0 base g n cap (X++M++(A2++(B2++Y))) wr by rw[hM];have:=HC1.out;simpa only[List.append_assoc]using this);clear hM;have HML:=qH (show(X++M).length=mid by have h1:=HM2.out.length_eq;have:=HTA.out;have:=HMI.out;have:=HAS1.out;have:=HXA.out;simp at h1⊢;omega);have HFIN:=qH (show∀(W:World)(L:List Ev),SortedE L→L.Perm (A2++B2)→Srt w0 base g n cap (X++M++L++Y) W→MrgPost w0 base g n cap X (A++B) Y (.returned (.tuple #[])) W from fun W L h1 h2 h3=>⟨rfl,M++L,(HMG.out M L HM1.out h1 HM2.out h2).1,(HMG.out M L HM1.out h1 HM2.out h2).2,by simpa only[List.append_assoc]using h3⟩);have HC:=qH (HIH.out w0 wr base g n cap (X++M) A2 B2 Y (by have:=HTA.out;have:=HN2.out;omega) (by have:=HM3.out;simpa only[List.append_assoc]using this) HSA.out.2.1 HSB.out.2.1 (by have:=HTA.out;have:=HMI.out;have:=HME.out;omega) (by have:=HTA.out;omega) hn mid en b HML.out (by have:=HTA.out;have:=HMI.out;have:=HME.out;omega) (by have:=HTA.out;omega));go_wp2_with fail;with_reducible refine HC.out.mono ?_
         rintro r9 w7⟨rfl,L,h1,h2,h3⟩;have HF:=qH (HFIN.out w7 L h1 h2 h3);clear h1 h2 h3;go_wp2;go_end0;exact HF.out
        ·have c0:s<m:=by omega
         have d0:(s:Int)<m:=by omega
         have c1: ¬m<en:=by omega
         have d1: ¬(m:Int)<en:=by omega
         have c2: ¬a<s:=by omega
         have d2: ¬(a:Int)<s:=by omega
         have c3:mid<en:=by omega
         have d3:(mid:Int)<en:=by omega
         have c4:en<b:=by omega
         have d4:(en:Int)<b:=by omega
         have HC1:=qH (show Srt w0 base g n cap (X++A1++B1++A2++(B2++Y)) wr by
          have h1:=HS2.out;by_cases h2:s<m;·rw[HE1.out.2.1 (by omega)]at h1⊢;simpa using h1
          ·rw[HE1.out.1 (by omega)]at h1⊢;simpa using h1);obtain⟨M,hM⟩: ∃M,M=A1++B1:=⟨_,rfl⟩;have HM1:=qH (show SortedE M by
          rw[hM];refine sort_nil HSA.out.1 HSB.out.1 ?_;by_cases h2:a<s;·exact .inr (HE1.out.2.2.2.1 (by omega))
          ·exact .inl (HE1.out.2.2.1 (by omega)));have HM2:=qH (show M.Perm (A1++B1)by rw[hM]);have HM3:=qH (show Srt w0 base g n cap (X++M++(A2++(B2++Y))) wr by rw[hM];have:=HC1.out;simpa only[List.append_assoc]using this);clear hM;have HML:=qH (show(X++M).length=mid by have h1:=HM2.out.length_eq;have:=HTA.out;have:=HMI.out;have:=HAS1.out;have:=HXA.out;simp at h1⊢;omega);have HFIN:=qH (show∀(W:World)(L:List Ev),SortedE L→L.Perm (A2++B2)→Srt w0 base g n cap (X++M++L++Y) W→MrgPost w0 base g n cap X (A++B) Y (.returned (.tuple #[])) W from fun W L h1 h2 h3=>⟨rfl,M++L,(HMG.out M L HM1.out h1 HM2.out h2).1,(HMG.out M L HM1.out h1 HM2.out h2).2,by simpa only[List.append_assoc]using h3⟩);have HC:=qH (HIH.out w0 wr base g n cap (X++M) A2 B2 Y (by have:=HTA.out;have:=HN2.out;omega) (by have:=HM3.out;simpa only[List.append_assoc]using this) HSA.out.2.1 HSB.out.2.1 (by have:=HTA.out;have:=HMI.out;have:=HME.out;omega) (by have:=HTA.out;omega) hn mid en b HML.out (by have:=HTA.out;have:=HMI.out;have:=HME.out;omega) (by have:=HTA.out;omega));go_wp2_with fail;with_reducible refine HC.out.mono ?_
         rintro r9 w7⟨rfl,L,h1,h2,h3⟩;have HF:=qH (HFIN.out w7 L h1 h2 h3);clear h1 h2 h3;go_wp2;go_end0;exact HF.out
      ·by_cases g2:s<mid
       ·have c0: ¬s<m:=by omega
        have d0: ¬(s:Int)<m:=by omega
        have c1:a<s:=by omega
        have d1:(a:Int)<s:=by omega
        have c2:s<mid:=by omega
        have d2:(s:Int)<mid:=by omega
        have c3: ¬mid<en:=by omega
        have d3: ¬(mid:Int)<en:=by omega
        have HC1:=qH (show Srt w0 base g n cap (X++A1++B1++A2++(B2++Y)) wr by
         have h1:=HS2.out;by_cases h2:s<m;·rw[HE1.out.2.1 (by omega)]at h1⊢;simpa using h1
         ·rw[HE1.out.1 (by omega)]at h1⊢;simpa using h1);have HC:=qH (HIH.out w0 wr base g n cap X A1 B1 (A2++(B2++Y)) (by have:=HTA.out;have:=HN2.out;omega) (by have:=HC1.out;simpa only[List.append_assoc]using this) HSA.out.1 HSB.out.1 (by have:=HTA.out;have:=HAS1.out;omega) (by have:=HTA.out;have:=HMI.out;omega) hn a s mid HXA.out (by have:=HTA.out;have:=HAS1.out;omega) (by have:=HTA.out;have:=HMI.out;omega));go_wp2_with fail;with_reducible refine HC.out.mono ?_
        rintro r9 w6⟨rfl,M,hM1,hM2,hM3⟩;have HM1:=qH hM1;have HM2:=qH hM2;have HM3:=qH hM3;clear hM1 hM2 hM3 HC;have HML:=qH (show(X++M).length=mid by have h1:=HM2.out.length_eq;have:=HTA.out;have:=HMI.out;have:=HAS1.out;have:=HXA.out;simp at h1⊢;omega);have HFIN:=qH (show∀(W:World)(L:List Ev),SortedE L→L.Perm (A2++B2)→Srt w0 base g n cap (X++M++L++Y) W→MrgPost w0 base g n cap X (A++B) Y (.returned (.tuple #[])) W from fun W L h1 h2 h3=>⟨rfl,M++L,(HMG.out M L HM1.out h1 HM2.out h2).1,(HMG.out M L HM1.out h1 HM2.out h2).2,by simpa only[List.append_assoc]using h3⟩);have HF:=qH (HFIN.out w6 (A2++B2) (sort_nil HSA.out.2.1 HSB.out.2.1 (by
         by_cases h2:mid<en;·exact .inr (HE1.out.2.2.2.2.2 (by omega))
         ·exact .inl (HE1.out.2.2.2.2.1 (by omega)))) (List.Perm.refl _) (by have:=HM3.out;simpa only[List.append_assoc]using this));go_wp2;go_end0;exact HF.out
       ·have c0: ¬s<m:=by omega
        have d0: ¬(s:Int)<m:=by omega
        have c1:a<s:=by omega
        have d1:(a:Int)<s:=by omega
        have c2: ¬s<mid:=by omega
        have d2: ¬(s:Int)<mid:=by omega
        have c3: ¬mid<en:=by omega
        have d3: ¬(mid:Int)<en:=by omega
        have HC1:=qH (show Srt w0 base g n cap (X++A1++B1++A2++(B2++Y)) wr by
         have h1:=HS2.out;by_cases h2:s<m;·rw[HE1.out.2.1 (by omega)]at h1⊢;simpa using h1
         ·rw[HE1.out.1 (by omega)]at h1⊢;simpa using h1);obtain⟨M,hM⟩: ∃M,M=A1++B1:=⟨_,rfl⟩;have HM1:=qH (show SortedE M by
         rw[hM];refine sort_nil HSA.out.1 HSB.out.1 ?_;by_cases h2:a<s;·exact .inr (HE1.out.2.2.2.1 (by omega))
         ·exact .inl (HE1.out.2.2.1 (by omega)));have HM2:=qH (show M.Perm (A1++B1)by rw[hM]);have HM3:=qH (show Srt w0 base g n cap (X++M++(A2++(B2++Y))) wr by rw[hM];have:=HC1.out;simpa only[List.append_assoc]using this);clear hM;have HML:=qH (show(X++M).length=mid by have h1:=HM2.out.length_eq;have:=HTA.out;have:=HMI.out;have:=HAS1.out;have:=HXA.out;simp at h1⊢;omega);have HFIN:=qH (show∀(W:World)(L:List Ev),SortedE L→L.Perm (A2++B2)→Srt w0 base g n cap (X++M++L++Y) W→MrgPost w0 base g n cap X (A++B) Y (.returned (.tuple #[])) W from fun W L h1 h2 h3=>⟨rfl,M++L,(HMG.out M L HM1.out h1 HM2.out h2).1,(HMG.out M L HM1.out h1 HM2.out h2).2,by simpa only[List.append_assoc]using h3⟩);have HF:=qH (HFIN.out wr (A2++B2) (sort_nil HSA.out.2.1 HSB.out.2.1 (by
         by_cases h2:mid<en;·exact .inr (HE1.out.2.2.2.2.2 (by omega))
         ·exact .inl (HE1.out.2.2.2.2.1 (by omega)))) (List.Perm.refl _) (by have:=HM3.out;simpa only[List.append_assoc]using this));go_wp2;go_end0;exact HF.out
end Go.Proofs.YtcmmclliabhnjaaGreatDoor
