/-
  The document's names (layers 2, 6, 7).
-/
import Derived.Test.YtbejfgmdkmddnaaGreatDoorVRowK
set_option maxRecDepth 100000
set_option maxHeartbeats 16000000
namespace Go.Proofs.YtbejfgmdkmddnaaGreatDoor
open Go.RowKit
def eG(c:UInt8):Bool:=(decide (97≤c.toNat)&&decide (c.toNat≤122))||(decide (48≤c.toNat)&&decide (c.toNat≤57))||decide (c.toNat=45)
def ag(l:List UInt8):Bool:=decide (1≤l.length)&&decide (l.length≤24)&&l.all eG
theorem dN{l:List UInt8}(h:l.length<1∨24<l.length):ag l=false:=by unfold ag;rcases h with h|h<;>simp<;>omega
theorem qj{l:List UInt8}(k:Nat)(hk:k<l.length)(h:eG l[k]=false):ag l=false:=by
 unfold ag;have:l.all eG=false:=by rw[List.all_eq_false];exact⟨l[k],List.getElem_mem hk,by simp[h]⟩
 simp[this]
theorem kW{l:List UInt8}(h1:1≤l.length)(h2:l.length≤24)(h: ∀j(hj:j<l.length),eG l[j]=true):ag l=true:=by
 unfold ag;have:l.all eG=true:=by rw[List.all_eq_true];intro x hx;obtain⟨j,hj,rfl⟩:=List.getElem_of_mem hx;exact h j hj
 simp[this,h1,h2]
theorem pE(w:World)(l:List UInt8)(hm:l.length≤1000000000):Calls Tryz.prog 60 #[.string ⟨l.toArray⟩] w fun e w'=>e=.returned (.bool (ag l))∧w=w':=by
 by_cases h0:l.length<1;·go_enter Tryz.func60,Tryz.ntmps60;go_wp2;go_ret;rw[dN (.inl h0)];exact⟨rfl,rfl⟩
 by_cases h24:24<l.length;·go_enter Tryz.func60,Tryz.ntmps60;go_wp2;go_ret;rw[dN (.inr h24)];exact⟨rfl,rfl⟩
 have d0:decide ((l.length:Int)<1)=false:=decide_eq_false (by omega);have d1:decide (24<(l.length:Int))=false:=decide_eq_false (by omega);go_enter Tryz.func60,Tryz.ntmps60;go_wp2;go_loop[15](fun i=> ∃k:Nat,i=.int .i64 k∧k≤l.length∧Hid (∀j(hj:j<l.length),j<k→eG l[j]=true))(fun i=>l.length-(intOf i).toNat);case atStart=>exact⟨0,rfl,Nat.zero_le _,fun j _ h=>by omega⟩
 case round=>
  obtain⟨k,rfl,hk,HK⟩:=hrel;by_cases hkn:k<l.length
  ·have g0:(⟨l.toArray⟩:ByteArray)[k]'(by simpa[ByteArray.size]using hkn)=l[k]:=rfl;have HC:=qS (eG l[k]=((decide (97≤l[k].toNat)&&decide (l[k].toNat≤122))||(decide (48≤l[k].toNat)&&decide (l[k].toNat≤57))||decide (l[k].toNat=45))) (rfl);have HB:=qH (fun h=>qj (l:=l) k hkn h);have HN:=qS (∀h:eG l[k]=true,∀j(hj:j<l.length),j<k+1→eG l[j]=true) (fun h j hj hlt=>by
    by_cases e:j=k;·subst e;exact h
    ·exact HK.o j hj (by omega));have hx:=l[k].toNat_lt;generalize hc:eG l[k]=cc at*;clear hc;generalize Sk:l[k]=x at*;clear Sk;have hcc:cc=true∨cc=false:=by cases cc<;>simp
   rcases hcc with hcc|hcc
   ·have nG:Hid (((97≤x.toNat∧x.toNat≤122)∨(48≤x.toNat∧x.toNat≤57))∨x.toNat=45):=by have:=HC.o;rw[hcc]at this;unfold Hid;simpa using this.symm
    have Gw:=qH (HN.o hcc);clear hcc HC HB HN;have e45:Hid ((x.toNat:Int)=45↔x.toNat=45):=by unfold Hid;omega
    rcases nG.o with(⟨a1,a2⟩|⟨a1,a2⟩)|a1
    ·have b1:decide (97≤(x.toNat:Int))=true:=decide_eq_true (by omega);have b2:decide ((x.toNat:Int)≤122)=true:=decide_eq_true (by omega);go_wp2;go_round;case rel=>exact⟨k+1,by go_num,by omega,Gw.o⟩
     case measure=>simp[intOf];omega
    ·have b1:decide (97≤(x.toNat:Int))=false:=decide_eq_false (by omega);have b2:decide (48≤(x.toNat:Int))=true:=decide_eq_true (by omega);have b3:decide ((x.toNat:Int)≤57)=true:=decide_eq_true (by omega);go_wp2;go_round;case rel=>exact⟨k+1,by go_num,by omega,Gw.o⟩
     case measure=>simp[intOf];omega
    ·have b1:decide (97≤(x.toNat:Int))=false:=decide_eq_false (by omega);have b2:decide (48≤(x.toNat:Int))=false:=decide_eq_false (by omega);have b3:((x.toNat:Int)==45)=true:=by simp;omega
     have A1:=qH a1;clear a1;go_wp2;go_round;case rel=>exact⟨k+1,by go_num,by omega,Gw.o⟩
     case measure=>simp[intOf];omega
   ·have nG:Hid (¬(((97≤x.toNat∧x.toNat≤122)∨(48≤x.toNat∧x.toNat≤57))∨x.toNat=45)):=by
     have:=HC.o;rw[hcc]at this;unfold Hid;intro hh;have h2:(decide (97≤x.toNat)&&decide (x.toNat≤122)||decide (48≤x.toNat)&&decide (x.toNat≤57)||decide (x.toNat=45))=true:=by simpa using hh
     rw[h2]at this;cases this
    have hB:=HB.o hcc;have si:=qH hB;clear hcc HC HN HB hB;have b5:((x.toNat:Int)==45)=false:=by have:=nG.o;simp;omega
    have hcases:(123≤x.toNat)∨(97>x.toNat∧58≤x.toNat)∨(x.toNat<48):=by have:=nG.o;omega
    rcases hcases with a1|⟨a1,a2⟩|a1;·have b1:decide (97≤(x.toNat:Int))=true:=decide_eq_true (by omega);have b2:decide ((x.toNat:Int)≤122)=false:=decide_eq_false (by omega);have b3:decide (48≤(x.toNat:Int))=true:=decide_eq_true (by omega);have b4:decide ((x.toNat:Int)≤57)=false:=decide_eq_false (by omega);go_wp2;go_ret;rw[si.o];exact⟨rfl,rfl⟩
    ·have b1:decide (97≤(x.toNat:Int))=false:=decide_eq_false (by omega);have b3:decide (48≤(x.toNat:Int))=true:=decide_eq_true (by omega);have b4:decide ((x.toNat:Int)≤57)=false:=decide_eq_false (by omega);go_wp2;go_ret;rw[si.o];exact⟨rfl,rfl⟩
    ·have b1:decide (97≤(x.toNat:Int))=false:=decide_eq_false (by omega);have b3:decide (48≤(x.toNat:Int))=false:=decide_eq_false (by omega);go_wp2;go_ret;rw[si.o];exact⟨rfl,rfl⟩
  ·have hB:ag l=true:=kW (by omega) (by omega) (fun j hj=>HK.o j hj (by omega));have si:=qH hB;clear hB;go_wp2;go_ret;rw[si.o];exact⟨rfl,rfl⟩
open Go.Maps Go.Sort
def df(n:Int):Int:=min (max n 0) 1099511627776
theorem qw(n:Int):0≤df n:=by unfold df;omega
theorem qy(n:Int):df n≤1099511627776:=by unfold df;omega
def fG:List Int→Option Int|[]=>none|x::r=>match fG r with|none=>some x|some y=>some (if x≤y then x else y)
theorem wK{l:List Int}:fG l=none↔l=[]:=by cases l with|nil=>simp[fG]|cons x r=>simp only[fG];split<;>simp
theorem Fe{l:List Int}{m:Int}:fG l=some m↔m∈l∧ ∀x∈l,m≤x:=by
 induction l generalizing m with
  |nil=>simp[fG]
  |cons x r ih=>
   simp only[fG];cases hr:fG r with
    |none=>
     have:=wK.1 hr;subst this;simp;constructor;·rintro rfl;exact⟨rfl,Int.le_refl _⟩
     ·exact fun h=>h.1.symm
    |some y=>
     obtain⟨h1,h2⟩:=ih.1 hr;simp only[Option.some.injEq,List.mem_cons];constructor
     ·rintro rfl;split
      ·refine⟨.inl rfl,fun z hz=>?_⟩;rcases hz with rfl|hz;·exact Int.le_refl _
       ·have:=h2 z hz;omega
      ·refine⟨.inr h1,fun z hz=>?_⟩;rcases hz with rfl|hz;·omega
       ·exact h2 z hz
     ·rintro⟨h3,h4⟩;have a1:=h4 x (.inl rfl);have a2:=h4 y (.inr h1);rcases h3 with rfl|h3;·rw[if_pos a2]
      ·have:=h2 m h3;split<;>omega
structure aZ where
 aa:Int
 idle:Int
 now:Int
 mark:Int
 src:Row (Int×Int)
def lU(idle now:Int)(s:Int×Int):Bool:=decide (idle=0)||decide (now-s.2≤idle)
def aZ.told(c:aZ):Option Int:=fG ((c.src.filter fun p=>lU c.idle c.now p.2).map fun p=>p.2.1-c.aa-1)
def aZ.rise(c:aZ):aZ:=match c.told with|none=>c|some m=>{c with mark:=max c.mark m}
def aZ.tick(c:aZ)(now:Int):aZ:=({c with now:=max c.now (df now)}:aZ).rise
def aZ.hears(c:aZ)(name:List UInt8)(at_:Int):Bool:=ag name&&decide (0≤at_)&&decide (at_≤1099511627776)&&decide (c.mark<at_)
def aZ.heard(c:aZ)(name:List UInt8)(at_:Int):aZ:=({c with src:=bL name (max ((bO c.src name).getD (0,0)).1 at_,c.now) c.src}:aZ).rise
def aZ.hear(c:aZ)(name:List UInt8)(at_ now:Int):aZ:=if(c.tick now).hears name at_ then(c.tick now).heard name at_ else c.tick now
def aZ.new(aa idle:Int):aZ:=⟨df aa,df idle,0,-1,[]⟩
structure fD(c:aZ):Prop where
 aa:0≤c.aa∧c.aa≤1099511627776
 idle:0≤c.idle∧c.idle≤1099511627776
 now:0≤c.now∧c.now≤1099511627776
 mark: -1≤c.mark∧c.mark≤1099511627776
 rising:fT c.src
 src: ∀p∈c.src,ag p.1=true∧0≤p.2.1∧p.2.1≤1099511627776∧0≤p.2.2∧p.2.2≤c.now
theorem Au{c:aZ}{m:Int}:c.told=some m↔(∃p∈c.src,lU c.idle c.now p.2=true∧m=p.2.1-c.aa-1)∧ ∀p∈c.src,lU c.idle c.now p.2=true→m≤p.2.1-c.aa-1:=by
 unfold aZ.told;rw[Fe];simp only[List.mem_map,List.mem_filter];constructor;·rintro⟨⟨p,⟨h1,h2⟩,rfl⟩,h3⟩;exact⟨⟨p,h1,h2,rfl⟩,fun q hq ha=>h3 _ ⟨q,⟨hq,ha⟩,rfl⟩⟩
 ·rintro⟨⟨p,h1,h2,rfl⟩,h3⟩;refine⟨⟨p,⟨h1,h2⟩,rfl⟩,?_⟩;rintro _⟨q,⟨hq,ha⟩,rfl⟩;exact h3 q hq ha
theorem told_none{c:aZ}:c.told=none↔ ∀p∈c.src,lU c.idle c.now p.2=false:=by
 unfold aZ.told;rw[wK];simp only[List.map_eq_nil_iff,List.filter_eq_nil_iff];constructor;·intro h p hp;simpa using h p hp
 ·intro h p hp;simp[h p hp]
theorem fD.told{c:aZ}(h:fD c){m:Int}(ht:c.told=some m): -1099511627777≤m∧m≤1099511627776:=by obtain⟨⟨p,hp,_,rfl⟩,_⟩:=Au.1 ht;have:=h.src p hp;have:=h.aa;omega
theorem fD.rise{c:aZ}(h:fD c):fD c.rise:=by unfold aZ.rise;cases ht:c.told with|none=>exact h|some m=>have:=h.told ht;have:=h.mark;exact⟨h.aa,h.idle,h.now,by simp only;omega,h.rising,h.src⟩
theorem fD.said{c:aZ}(h:fD c){name:List UInt8}{at_:Int}(hh:c.hears name at_=true):fD {c with src:=bL name (max ((bO c.src name).getD (0,0)).1 at_,c.now) c.src}:=by
 unfold aZ.hears at hh;simp only[Bool.and_eq_true,decide_eq_true_eq]at hh;obtain⟨⟨⟨h1,h2⟩,h3⟩,h4⟩:=hh;have hn:=h.now;refine⟨h.aa,h.idle,h.now,h.mark,jL h.rising _ _,fun p hp=>?_⟩;rcases jb.1 hp with rfl|⟨hp,_⟩;·refine⟨h1,?_⟩;cases hg:bO c.src name with|none=>simp only[Option.getD_none];omega|some q=>have:=h.src _ (gP hg);simp only[Option.getD_some]at*;omega
 ·exact h.src p hp
theorem xQ(c:aZ)(now:Int):(c.tick now).src.length=c.src.length:=by unfold aZ.tick aZ.rise;split<;>rfl
theorem Pj(c:aZ)(name:List UInt8)(at_ now:Int):(c.hear name at_ now).src.length≤c.src.length+1:=by
 unfold aZ.hear;split
 ·have:((c.tick now).heard name at_).src=bL name (max ((bO (c.tick now).src name).getD (0,0)).1 at_,(c.tick now).now) (c.tick now).src:=by unfold aZ.heard aZ.rise;split<;>rfl
  rw[this];have:=gK (c.tick now).src name (max ((bO (c.tick now).src name).getD (0,0)).1 at_,(c.tick now).now);rw[xQ]at this;exact this
 ·rw[xQ];omega
theorem fD.new(aa idle:Int):fD (aZ.new aa idle):=⟨⟨qw _,qy _⟩,⟨qw _,qy _⟩,by simp[aZ.new],by simp[aZ.new],by simp[aZ.new,fT],fun p hp=>by simp[aZ.new]at hp⟩
theorem AZ(c:aZ):c.rise.rise=c.rise:=by unfold aZ.rise;cases ht:c.told with|none=>simp only[ht]|some m=>simp only;have:({c with mark:=max c.mark m}:aZ).told=some m:=ht;rw[this];simp only;congr 1;omega
theorem Eu(c:aZ):c.rise.now=c.now:=by unfold aZ.rise;split<;>rfl
theorem N9(c:aZ):c.rise.src=c.src:=by unfold aZ.rise;split<;>rfl
abbrev Rg:=List (Int×Int)
structure RgOk(rs:Rg):Prop where
 up:rs.Pairwise fun r s=>r.2<s.1
 each: ∀r∈rs,1≤r.1∧r.1<r.2∧r.2≤1099511627777
def fJ(rs:Rg)(n:Int):Nat:=(rs.takeWhile fun r=>decide (r.2≤n)).length
def eD(rs:Rg)(n:Int):Bool:=rs.any fun r=>decide (r.1≤n)&&decide (n<r.2)
def lT(rs:Rg)(n:Int):Bool:=decide (0<fJ rs n)&&((rs.getD (fJ rs n-1) (0,0)).2==n)
def kS(rs:Rg)(n:Int):Bool:=decide (fJ rs n<rs.length)&&((rs.getD (fJ rs n) (0,0)).1==n+1)
def dB(rs:Rg)(n:Int):Rg:=if lT rs n then if kS rs n then(rs.set (fJ rs n-1) ((rs.getD (fJ rs n-1) (0,0)).1,(rs.getD (fJ rs n) (0,0)).2)).take (fJ rs n)++(rs.set (fJ rs n-1) ((rs.getD (fJ rs n-1) (0,0)).1,(rs.getD (fJ rs n) (0,0)).2)).drop (fJ rs n+1)else rs.set (fJ rs n-1) ((rs.getD (fJ rs n-1) (0,0)).1,n+1)else if kS rs n then rs.set (fJ rs n) (n,(rs.getD (fJ rs n) (0,0)).2)else rs.take (fJ rs n)++[(n,n+1)]++rs.drop (fJ rs n)
theorem Om(rs:Rg)(n:Int):fJ rs n≤rs.length:=by unfold fJ;exact(List.takeWhile_prefix _).length_le
theorem EB{rs:Rg}(h:RgOk rs)(n:Int): ∃A B,rs=A++B∧fJ rs n=A.length∧(∀r∈A,r.2≤n)∧ ∀r∈B,n<r.2:=by
 refine⟨rs.takeWhile fun r=>decide (r.2≤n),rs.dropWhile fun r=>decide (r.2≤n),List.takeWhile_append_dropWhile.symm,rfl,fun r hr=>by simpa using List.all_eq_true.1 List.all_takeWhile r hr,?_⟩;have key: ∀l:Rg,l.Pairwise (fun r s=>r.2<s.1)→(∀r∈l,r.1<r.2)→ ∀r∈l.dropWhile (fun r=>decide (r.2≤n)),n<r.2:=by
  intro l;induction l with
   |nil=>intro _ _ r hr;simp at hr
   |cons a t ih=>
    intro hp he r hr;obtain⟨h1,h2⟩:=List.pairwise_cons.1 hp;by_cases ha:a.2≤n;·rw[List.dropWhile_cons_of_pos (by simpa using ha)]at hr;exact ih h2 (fun r hr=>he r (by simp[hr])) r hr
    ·rw[List.dropWhile_cons_of_neg (by simpa using ha)]at hr;rcases List.mem_cons.1 hr with rfl|hr;·omega
     ·have:=h1 r hr;have:=he r (by simp[hr]);omega
 exact key rs h.up (fun r hr=>(h.each r hr).2.1)
theorem Vf{rs:Rg}{n:Int}{A B:Rg}(h:rs=A++B)(hA: ∀r∈A,r.2≤n)(hB: ∀r∈B,n<r.2):fJ rs n=A.length:=by subst h;unfold fJ;rw[List.takeWhile_append_of_pos (fun r hr=>by simpa using hA r hr)];cases B with|nil=>simp|cons b t=>rw[List.takeWhile_cons_of_neg (by have:=hB b (by simp);simp;omega)];simp
theorem H9{rs:Rg}{n:Int}(k:Nat)(hk:k≤rs.length)(h1: ∀i(h:i<rs.length),i<k→rs[i].2≤n)(h2: ∀i(h:i<rs.length),k≤i→n<rs[i].2):k=fJ rs n:=by have:=Vf (rs:=rs) (n:=n) (A:=rs.take k) (B:=rs.drop k) (List.take_append_drop k rs).symm (fun r hr=>by obtain⟨i,hi,rfl⟩:=List.getElem_of_mem hr;rw[List.length_take]at hi;rw[List.getElem_take];exact h1 i (by omega) (by omega)) (fun r hr=>by obtain⟨i,hi,rfl⟩:=List.getElem_of_mem hr;rw[List.length_drop]at hi;rw[List.getElem_drop];exact h2 (k+i) (by omega) (by omega));rw[this,List.length_take];omega
theorem RN{rs:Rg}(h:RgOk rs)(i j:Nat)(hij:i≤j)(hj:j<rs.length):rs[i].2≤rs[j].2:=by
 rcases Nat.lt_or_ge i j with hlt|hge;·have h1:=List.pairwise_iff_getElem.1 h.up i j (by omega) hj hlt;have h2:=(h.each rs[j] (List.getElem_mem hj)).2.1;omega
 ·have:i=j:=by omega
  subst this;exact Int.le_refl _
theorem Ke{rs:Rg}(h:RgOk rs)(n:Int):eD rs n=(decide (fJ rs n<rs.length)&&decide ((rs.getD (fJ rs n) (0,0)).1≤n)):=by
 obtain⟨A,B,e,hp,hA,hB⟩:=EB h n;rw[hp];subst e;unfold eD;rw[List.any_append];have h0:(A.any fun r=>decide (r.1≤n)&&decide (n<r.2))=false:=by rw[List.any_eq_false];intro r hr;have:=hA r hr;simp;omega
 rw[h0,Bool.false_or];cases B with
  |nil=>simp
  |cons b t=>
   have hb:=hB b (by simp);have hup:=(List.pairwise_append.1 h.up).2.1;obtain⟨h1,h2⟩:=List.pairwise_cons.1 hup;have h3:(t.any fun r=>decide (r.1≤n)&&decide (n<r.2))=false:=by rw[List.any_eq_false];intro r hr;have:=h1 r hr;simp;omega
   rw[List.any_cons,h3,Bool.or_false];simp[hb]
theorem nQ{rs:Rg}(h:RgOk rs){n:Int}(hn:eD rs n=false): ∃A B a b,(rs=A++B∨rs=A++(a,n)::B∨rs=A++(n+1,b)::B∨rs=A++(a,n)::(n+1,b)::B)∧((rs=A++B∧dB rs n=A++(n,n+1)::B)∨(rs=A++(a,n)::B∧dB rs n=A++(a,n+1)::B)∨(rs=A++(n+1,b)::B∧dB rs n=A++(n,b)::B)∨(rs=A++(a,n)::(n+1,b)::B∧dB rs n=A++(a,b)::B))∧(∀r∈A,r.2<n)∧(∀r∈B,n+1<r.1):=by
 have hh:=Ke h n;rw[hn]at hh;obtain⟨A,B,e,hp,hA,hB⟩:=EB h n;have hB1: ∀r∈B,n<r.1:=by
  cases B with
   |nil=>intro r hr;simp at hr
   |cons b t=>
    have h0:n<b.1:=by rw[hp]at hh;subst e;simp at hh;exact hh
    intro r hr;rcases List.mem_cons.1 hr with rfl|hr;·exact h0
    ·subst e;have hup:=(List.pairwise_append.1 h.up).2.1;have h1:=(List.pairwise_cons.1 hup).1 r hr;have h2:=h.each b (by simp);omega
 have aap:=(List.pairwise_append.1 (e▸h.up)).1;have aao:=(List.pairwise_append.1 (e▸h.up)).2.1;have left:(lT rs n=false∧ ∀r∈A,r.2<n)∨(lT rs n=true∧ ∃A' a,A=A'++[(a,n)]∧ ∀r∈A',r.2<n):=by
  unfold lT;rw[hp];rcases List.eq_nil_or_concat A with rfl|⟨A',x,rfl⟩;·left;exact⟨by simp,by simp⟩
  ·have hx:rs.getD ((A'++[x]).length-1) (0,0)=x:=by subst e;simp
   rw[List.concat_eq_append]at*;rw[hx];have hA2: ∀r∈A',r.2<n:=fun r hr=>by have h1:=(List.pairwise_append.1 aap).2.2 r hr x (by simp);have h2:=hA x (by simp);have h3:=h.each x (by subst e;simp);omega
   by_cases Vo:x.2=n;·right;exact⟨by simp[Vo],A',x.1,by rw[←Vo],hA2⟩
   ·left;refine⟨by simp[Vo],fun r hr=>?_⟩;rcases List.mem_append.1 hr with hr|hr;·exact hA2 r hr
    ·have:=hA x (by simp);simp at hr;subst hr;omega
 have right:(kS rs n=false∧ ∀r∈B,n+1<r.1)∨(kS rs n=true∧ ∃b B',B=(n+1,b)::B'∧ ∀r∈B',n+1<r.1):=by
  unfold kS;rw[hp];cases B with
   |nil=>left;exact⟨by subst e;simp,by simp⟩
   |cons x t=>
    have hx:rs.getD A.length (0,0)=x:=by subst e;simp
    have hl:A.length<rs.length:=by subst e;simp
    rw[hx];have hB2: ∀r∈t,n+1<r.1:=fun r hr=>by have h1:=(List.pairwise_cons.1 aao).1 r hr;have h2:=hB1 x (by simp);have h3:=h.each x (by subst e;simp);omega
    by_cases Vo:x.1=n+1;·right;exact⟨by simp[Vo,hl],x.2,t,by rw[←Vo],hB2⟩
    ·left;refine⟨by simp[Vo],fun r hr=>?_⟩;rcases List.mem_cons.1 hr with rfl|hr;·have:=hB1 r (by simp);omega
     ·exact hB2 r hr
 rcases left with⟨hl,hl2⟩|⟨hl,A',a,rfl,hl2⟩<;>rcases right with⟨hr,hr2⟩|⟨hr,b,B',rfl,hr2⟩;·refine⟨A,B,0,0,.inl e,.inl ⟨e,?_⟩,hl2,hr2⟩;unfold dB;rw[hl,hr,hp];subst e;simp
 ·refine⟨A,B',0,b,.inr (.inr (.inl e)),.inr (.inr (.inl ⟨e,?_⟩)),hl2,hr2⟩;unfold dB;rw[hl,hr,hp];subst e;simp
 ·refine⟨A',B,a,0,.inr (.inl (by rw[e];simp)),.inr (.inl ⟨by rw[e];simp,?_⟩),hl2,hr2⟩;unfold dB;rw[hl,hr,hp];subst e;simp
 ·refine⟨A',B',a,b,.inr (.inr (.inr (by rw[e];simp))),.inr (.inr (.inr ⟨by rw[e];simp,?_⟩)),hl2,hr2⟩;unfold dB;rw[hl,hr,hp];subst e;simp only[List.length_append,List.length_cons,List.length_nil,Nat.zero_add,Nat.add_sub_cancel];have e1:(A'++[(a,n)]++(n+1,b)::B').set A'.length (((A'++[(a,n)]++(n+1,b)::B').getD A'.length (0,0)).1,((A'++[(a,n)]++(n+1,b)::B').getD (A'.length+1) (0,0)).2)=(A'++[(a,b)])++([(n+1,b)]++B'):=by simp
  rw[e1,List.take_left' (by simp),←List.append_assoc,List.drop_left' (by simp)];simp
theorem EG{rs:Rg}(h:RgOk rs){n:Int}(hn:eD rs n=false)(m:Int):eD (dB rs n) m=(eD rs m||(m==n)):=by
 have Mt:=h.up;have xh:=h.each;obtain⟨A,B,a,b,_,hc,hA,hB⟩:=nQ h hn;rcases hc with⟨e,hp⟩|⟨e,hp⟩|⟨e,hp⟩|⟨e,hp⟩<;>rw[hp,e]<;>unfold eD<;>simp only[List.any_append,List.any_cons]<;>generalize(A.any fun r=>decide (r.1≤m)&&decide (m<r.2))=x<;>generalize(B.any fun r=>decide (r.1≤m)&&decide (m<r.2))=y;·cases x<;>cases y<;>first|(simp;done)|(rw[Bool.eq_iff_iff];simp;omega)
 ·have:=xh (a,n) (by rw[e];simp);cases x<;>cases y<;>first|(simp;done)|(rw[Bool.eq_iff_iff];simp;omega)
 ·have:=xh (n+1,b) (by rw[e];simp);cases x<;>cases y<;>first|(simp;done)|(rw[Bool.eq_iff_iff];simp;omega)
 ·have:=xh (a,n) (by rw[e];simp);have:=xh (n+1,b) (by rw[e];simp);cases x<;>cases y<;>first|(simp;done)|(rw[Bool.eq_iff_iff];simp;omega)
theorem Cn{rs:Rg}(h:RgOk rs){n:Int}(hn:eD rs n=false)(h1:1≤n)(h2:n≤1099511627776):RgOk (dB rs n):=by
 have Mt:=h.up;have xh:=h.each;obtain⟨A,B,a,b,_,hc,hA,hB⟩:=nQ h hn;rcases hc with⟨e,hp⟩|⟨e,hp⟩|⟨e,hp⟩|⟨e,hp⟩<;>rw[hp]<;>rw[e]at Mt xh
 ·obtain⟨u1,u2,u3⟩:=List.pairwise_append.1 Mt;refine⟨List.pairwise_append.2 ⟨u1,List.pairwise_cons.2 ⟨fun r hr=>hB r hr,u2⟩,fun r hr s hs=>?_⟩,fun r hr=>?_⟩
  ·rcases List.mem_cons.1 hs with rfl|hs;·exact hA r hr
   ·exact u3 r hr s hs
  ·rcases List.mem_append.1 hr with hr|hr;·exact xh r (by simp[hr])
   ·rcases List.mem_cons.1 hr with rfl|hr;·exact⟨h1,by simp only;omega,by simp only;omega⟩
    ·exact xh r (by simp[hr])
 ·obtain⟨u1,u2,u3⟩:=List.pairwise_append.1 Mt;obtain⟨u4,u5⟩:=List.pairwise_cons.1 u2;have ha:=xh (a,n) (by simp);refine⟨List.pairwise_append.2 ⟨u1,List.pairwise_cons.2 ⟨fun r hr=>hB r hr,u5⟩,fun r hr s hs=>?_⟩,fun r hr=>?_⟩
  ·rcases List.mem_cons.1 hs with rfl|hs;·exact u3 r hr (a,n) (by simp)
   ·exact u3 r hr s (by simp[hs])
  ·rcases List.mem_append.1 hr with hr|hr;·exact xh r (by simp[hr])
   ·rcases List.mem_cons.1 hr with rfl|hr;·simp only at*;omega
    ·exact xh r (by simp[hr])
 ·obtain⟨u1,u2,u3⟩:=List.pairwise_append.1 Mt;obtain⟨u4,u5⟩:=List.pairwise_cons.1 u2;have ha:=xh (n+1,b) (by simp);refine⟨List.pairwise_append.2 ⟨u1,List.pairwise_cons.2 ⟨fun r hr=>u4 r hr,u5⟩,fun r hr s hs=>?_⟩,fun r hr=>?_⟩
  ·rcases List.mem_cons.1 hs with rfl|hs;·exact hA r hr
   ·exact u3 r hr s (by simp[hs])
  ·rcases List.mem_append.1 hr with hr|hr;·exact xh r (by simp[hr])
   ·rcases List.mem_cons.1 hr with rfl|hr;·simp only at*;omega
    ·exact xh r (by simp[hr])
 ·obtain⟨u1,u2,u3⟩:=List.pairwise_append.1 Mt;obtain⟨u4,u5⟩:=List.pairwise_cons.1 u2;obtain⟨u6,u7⟩:=List.pairwise_cons.1 u5;have ha:=xh (a,n) (by simp);have hb:=xh (n+1,b) (by simp);refine⟨List.pairwise_append.2 ⟨u1,List.pairwise_cons.2 ⟨fun r hr=>u6 r hr,u7⟩,fun r hr s hs=>?_⟩,fun r hr=>?_⟩
  ·rcases List.mem_cons.1 hs with rfl|hs;·exact u3 r hr (a,n) (by simp)
   ·exact u3 r hr s (by simp[hs])
  ·rcases List.mem_append.1 hr with hr|hr;·exact xh r (by simp[hr])
   ·rcases List.mem_cons.1 hr with rfl|hr;·simp only at*;omega
    ·exact xh r (by simp[hr])
theorem jJ(rs:Rg){n:Int}(h:RgOk rs)(hn:eD rs n=false):dB rs n≠[]:=by obtain⟨A,B,a,b,_,hc,hA,hB⟩:=nQ h hn;rcases hc with⟨e,hp⟩|⟨e,hp⟩|⟨e,hp⟩|⟨e,hp⟩<;>rw[hp]<;>simp
theorem Oh(rs:Rg){n:Int}(h:RgOk rs)(hn:eD rs n=false):(dB rs n).length≤rs.length+1:=by obtain⟨A,B,a,b,_,hc,hA,hB⟩:=nQ h hn;rcases hc with⟨e,hp⟩|⟨e,hp⟩|⟨e,hp⟩|⟨e,hp⟩<;>rw[hp,e]<;>simp<;>omega
/-!### all sources -/
abbrev eZ:=Row Rg
structure dJ(m:eZ):Prop where
 up:fT m
 each: ∀p∈m,ag p.1=true∧RgOk p.2∧p.2≠[]
def aM(m:eZ)(s:List UInt8):Rg:=(bO m s).getD []
def hadB(m:eZ)(s:List UInt8)(n:Int):Bool:=eD (aM m s) n
def o9(m:eZ)(s:List UInt8)(n:Int):Bool:=ag s&&decide (1≤n)&&decide (n≤1099511627776)&&!hadB m s n
def oC(m:eZ)(s:List UInt8)(n:Int):eZ:=bL s (dB (aM m s) n) m
theorem RgOk.nil:RgOk []:=⟨List.Pairwise.nil,fun r hr=>by simp at hr⟩
theorem dJ.row{m:eZ}(h:dJ m)(s:List UInt8):RgOk (aM m s):=by unfold aM;cases hg:bO m s with|none=>exact RgOk.nil|some rs=>exact(h.each _ (gP hg)).2.1
theorem dJ.put{m:eZ}(h:dJ m){s:List UInt8}{n:Int}(hp:o9 m s n=true):dJ (oC m s n):=by
 unfold o9 at hp;simp only[Bool.and_eq_true,decide_eq_true_eq,Bool.not_eq_true']at hp;obtain⟨⟨⟨h1,h2⟩,h3⟩,h4⟩:=hp;refine⟨jL h.up _ _,fun p hp=>?_⟩;rcases jb.1 hp with rfl|⟨hp,_⟩;·exact⟨h1,Cn (h.row s) h4 h2 h3,jJ _ (h.row s) h4⟩
 ·exact h.each p hp
theorem dJ.nil:dJ []:=⟨List.Pairwise.nil,fun r hr=>by simp at hr⟩
theorem j4(m:eZ)(s:List UInt8)(rs:Rg):aM (bL s rs m) s=rs:=by unfold aM;rw[Aa];rfl
theorem gZ(m:eZ){s s':List UInt8}(rs:Rg)(h:s'≠s):aM (bL s rs m) s'=aM m s':=by unfold aM;rw[yX _ _ h]
theorem Oj{m:eZ}(h:dJ m){s:List UInt8}{n:Int}(hp:o9 m s n=true)(s':List UInt8)(n':Int):hadB (oC m s n) s' n'=(hadB m s' n'||(s'==s&&n'==n)):=by
 unfold o9 at hp;simp only[Bool.and_eq_true,decide_eq_true_eq,Bool.not_eq_true']at hp;unfold hadB oC;by_cases e:s'=s;·subst e;rw[j4,EG (h.row s') hp.2];simp
 ·rw[gZ _ _ e];simp[e]
theorem rn02(w:World)(l:List UInt8)(hm:l.length≤1000000000):Calls Tryz.prog 75 #[.string ⟨l.toArray⟩] w fun e w'=>e=.returned (.bool (ag l))∧w=w':=by
 by_cases h0:l.length<1;·go_enter Tryz.func75,Tryz.ntmps75;go_wp2;go_ret;rw[dN (.inl h0)];exact⟨rfl,rfl⟩
 by_cases h24:24<l.length;·go_enter Tryz.func75,Tryz.ntmps75;go_wp2;go_ret;rw[dN (.inr h24)];exact⟨rfl,rfl⟩
 have d0:decide ((l.length:Int)<1)=false:=decide_eq_false (by omega);have d1:decide (24<(l.length:Int))=false:=decide_eq_false (by omega);go_enter Tryz.func75,Tryz.ntmps75;go_wp2;go_loop[3](fun i=> ∃k:Nat,i=.int .i64 k∧k≤l.length∧Hid (∀j(hj:j<l.length),j<k→eG l[j]=true))(fun i=>l.length-(intOf i).toNat);case atStart=>exact⟨0,rfl,Nat.zero_le _,fun j _ h=>by omega⟩
 case round=>
  obtain⟨k,rfl,hk,HK⟩:=hrel;by_cases hkn:k<l.length
  ·have g0:(⟨l.toArray⟩:ByteArray)[k]'(by simpa[ByteArray.size]using hkn)=l[k]:=rfl;have HC:=qS (eG l[k]=((decide (97≤l[k].toNat)&&decide (l[k].toNat≤122))||(decide (48≤l[k].toNat)&&decide (l[k].toNat≤57))||decide (l[k].toNat=45))) (rfl);have HB:=qH (fun h=>qj (l:=l) k hkn h);have HN:=qS (∀h:eG l[k]=true,∀j(hj:j<l.length),j<k+1→eG l[j]=true) (fun h j hj hlt=>by
    by_cases e:j=k;·subst e;exact h
    ·exact HK.o j hj (by omega));have hx:=l[k].toNat_lt;generalize hc:eG l[k]=cc at*;clear hc;generalize Sk:l[k]=x at*;clear Sk;have hcc:cc=true∨cc=false:=by cases cc<;>simp
   rcases hcc with hcc|hcc
   ·have nG:Hid (((97≤x.toNat∧x.toNat≤122)∨(48≤x.toNat∧x.toNat≤57))∨x.toNat=45):=by have:=HC.o;rw[hcc]at this;unfold Hid;simpa using this.symm
    have Gw:=qH (HN.o hcc);clear hcc HC HB HN;have e45:Hid ((x.toNat:Int)=45↔x.toNat=45):=by unfold Hid;omega
    rcases nG.o with(⟨a1,a2⟩|⟨a1,a2⟩)|a1
    ·have b1:decide (97≤(x.toNat:Int))=true:=decide_eq_true (by omega);have b2:decide ((x.toNat:Int)≤122)=true:=decide_eq_true (by omega);go_wp2;go_round;case rel=>exact⟨k+1,by go_num,by omega,Gw.o⟩
     case measure=>simp[intOf];omega
    ·have b1:decide (97≤(x.toNat:Int))=false:=decide_eq_false (by omega);have b2:decide (48≤(x.toNat:Int))=true:=decide_eq_true (by omega);have b3:decide ((x.toNat:Int)≤57)=true:=decide_eq_true (by omega);go_wp2;go_round;case rel=>exact⟨k+1,by go_num,by omega,Gw.o⟩
     case measure=>simp[intOf];omega
    ·have b1:decide (97≤(x.toNat:Int))=false:=decide_eq_false (by omega);have b2:decide (48≤(x.toNat:Int))=false:=decide_eq_false (by omega);have b3:((x.toNat:Int)==45)=true:=by simp;omega
     have A1:=qH a1;clear a1;go_wp2;go_round;case rel=>exact⟨k+1,by go_num,by omega,Gw.o⟩
     case measure=>simp[intOf];omega
   ·have nG:Hid (¬(((97≤x.toNat∧x.toNat≤122)∨(48≤x.toNat∧x.toNat≤57))∨x.toNat=45)):=by
     have:=HC.o;rw[hcc]at this;unfold Hid;intro hh;have h2:(decide (97≤x.toNat)&&decide (x.toNat≤122)||decide (48≤x.toNat)&&decide (x.toNat≤57)||decide (x.toNat=45))=true:=by simpa using hh
     rw[h2]at this;cases this
    have hB:=HB.o hcc;have si:=qH hB;clear hcc HC HN HB hB;have b5:((x.toNat:Int)==45)=false:=by have:=nG.o;simp;omega
    have hcases:(123≤x.toNat)∨(97>x.toNat∧58≤x.toNat)∨(x.toNat<48):=by have:=nG.o;omega
    rcases hcases with a1|⟨a1,a2⟩|a1;·have b1:decide (97≤(x.toNat:Int))=true:=decide_eq_true (by omega);have b2:decide ((x.toNat:Int)≤122)=false:=decide_eq_false (by omega);have b3:decide (48≤(x.toNat:Int))=true:=decide_eq_true (by omega);have b4:decide ((x.toNat:Int)≤57)=false:=decide_eq_false (by omega);go_wp2;go_ret;rw[si.o];exact⟨rfl,rfl⟩
    ·have b1:decide (97≤(x.toNat:Int))=false:=decide_eq_false (by omega);have b3:decide (48≤(x.toNat:Int))=true:=decide_eq_true (by omega);have b4:decide ((x.toNat:Int)≤57)=false:=decide_eq_false (by omega);go_wp2;go_ret;rw[si.o];exact⟨rfl,rfl⟩
    ·have b1:decide (97≤(x.toNat:Int))=false:=decide_eq_false (by omega);have b3:decide (48≤(x.toNat:Int))=false:=decide_eq_false (by omega);go_wp2;go_ret;rw[si.o];exact⟨rfl,rfl⟩
  ·have hB:ag l=true:=kW (by omega) (by omega) (fun j hj=>HK.o j hj (by omega));have si:=qH hB;clear hB;go_wp2;go_ret;rw[si.o];exact⟨rfl,rfl⟩
end Go.Proofs.YtbejfgmdkmddnaaGreatDoor
