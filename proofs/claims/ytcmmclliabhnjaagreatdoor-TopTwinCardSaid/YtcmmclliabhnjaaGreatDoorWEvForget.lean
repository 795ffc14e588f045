/-
  sort.Search: a closure that makes memory, and changes nothing that was there.
-/
import Derived.Test.YtcmmclliabhnjaaGreatDoorWSets
import Derived.Test.YtcmmclliabhnjaaGreatDoorWMapL
import Derived.Test.YtcmmclliabhnjaaGreatDoorWKeys
import Derived.OwnWalkIn
import Derived.Lib.Walk
set_option maxRecDepth 100000
set_option maxHeartbeats 16000000
namespace Go.Proofs.YtcmmclliabhnjaaGreatDoor
open Go.RowKit
def nameC(c:UInt8):Bool:=(decide (97≤c.toNat)&&decide (c.toNat≤122))||(decide (48≤c.toNat)&&decide (c.toNat≤57))||decide (c.toNat=45)
def nameB(l:List UInt8):Bool:=decide (1≤l.length)&&decide (l.length≤24)&&l.all nameC
theorem nameB_short{l:List UInt8}(h:l.length<1∨24<l.length):nameB l=false:=by unfold nameB;rcases h with h|h<;>simp<;>omega
theorem nameB_bad{l:List UInt8}(k:Nat)(hk:k<l.length)(h:nameC l[k]=false):nameB l=false:=by
 unfold nameB;have:l.all nameC=false:=by rw[List.all_eq_false];exact⟨l[k],List.getElem_mem hk,by simp[h]⟩
 simp[this]
theorem nameB_good{l:List UInt8}(h1:1≤l.length)(h2:l.length≤24)(h: ∀j(hj:j<l.length),nameC l[j]=true):nameB l=true:=by
 unfold nameB;have:l.all nameC=true:=by rw[List.all_eq_true];intro x hx;obtain⟨j,hj,rfl⟩:=List.getElem_of_mem hx;exact h j hj
 simp[this,h1,h2]
theorem name_any(w:World)(l:List UInt8)(hm:l.length≤1000000000):Calls Tryz.prog 103 #[.string ⟨l.toArray⟩] w fun e w'=>e=.returned (.bool (nameB l))∧w=w':=by
 by_cases h0:l.length<1;·go_enter Tryz.func103,Tryz.ntmps103;go_wp2;go_ret;rw[nameB_short (.inl h0)];exact⟨rfl,rfl⟩
 by_cases h24:24<l.length;·go_enter Tryz.func103,Tryz.ntmps103;go_wp2;go_ret;rw[nameB_short (.inr h24)];exact⟨rfl,rfl⟩
 have d0:decide ((l.length:Int)<1)=false:=decide_eq_false (by omega);have d1:decide (24<(l.length:Int))=false:=decide_eq_false (by omega);go_enter Tryz.func103,Tryz.ntmps103;go_wp2;go_loop[15](fun i=> ∃k:Nat,i=.int .i64 k∧k≤l.length∧Hid (∀j(hj:j<l.length),j<k→nameC l[j]=true))(fun i=>l.length-(intOf i).toNat);case atStart=>exact⟨0,rfl,Nat.zero_le _,fun j _ h=>by omega⟩
 case round=>
  obtain⟨k,rfl,hk,HK⟩:=hrel;by_cases hkn:k<l.length
  ·have g0:(⟨l.toArray⟩:ByteArray)[k]'(by simpa[ByteArray.size]using hkn)=l[k]:=rfl;have HC:=qH (show nameC l[k]=((decide (97≤l[k].toNat)&&decide (l[k].toNat≤122))||(decide (48≤l[k].toNat)&&decide (l[k].toNat≤57))||decide (l[k].toNat=45))from rfl);have HB:=qH (fun h=>nameB_bad (l:=l) k hkn h);have HN:=qH (show∀h:nameC l[k]=true,∀j(hj:j<l.length),j<k+1→nameC l[j]=true from fun h j hj hlt=>by
    by_cases e:j=k;·subst e;exact h
    ·exact HK.out j hj (by omega));have hx:=l[k].toNat_lt;generalize hc:nameC l[k]=cc at*;clear hc;generalize hxx:l[k]=x at*;clear hxx;have hcc:cc=true∨cc=false:=by cases cc<;>simp
   rcases hcc with hcc|hcc
   ·have HCC:Hid (((97≤x.toNat∧x.toNat≤122)∨(48≤x.toNat∧x.toNat≤57))∨x.toNat=45):=by have:=HC.out;rw[hcc]at this;unfold Hid;simpa using this.symm
    have HN':=qH (HN.out hcc);clear hcc HC HB HN;have e45:Hid ((x.toNat:Int)=45↔x.toNat=45):=by unfold Hid;omega
    rcases HCC.out with(⟨a1,a2⟩|⟨a1,a2⟩)|a1
    ·have b1:decide (97≤(x.toNat:Int))=true:=decide_eq_true (by omega);have b2:decide ((x.toNat:Int)≤122)=true:=decide_eq_true (by omega);go_wp2;go_round;case rel=>exact⟨k+1,by go_num,by omega,HN'.out⟩
     case measure=>simp[intOf];omega
    ·have b1:decide (97≤(x.toNat:Int))=false:=decide_eq_false (by omega);have b2:decide (48≤(x.toNat:Int))=true:=decide_eq_true (by omega);have b3:decide ((x.toNat:Int)≤57)=true:=decide_eq_true (by omega);go_wp2;go_round;case rel=>exact⟨k+1,by go_num,by omega,HN'.out⟩
     case measure=>simp[intOf];omega
    ·have b1:decide (97≤(x.toNat:Int))=false:=decide_eq_false (by omega);have b2:decide (48≤(x.toNat:Int))=false:=decide_eq_false (by omega);have b3:((x.toNat:Int)==45)=true:=by simp;omega
     have A1:=qH a1;clear a1;go_wp2;go_round;case rel=>exact⟨k+1,by go_num,by omega,HN'.out⟩
     case measure=>simp[intOf];omega
   ·have HCC:Hid (¬(((97≤x.toNat∧x.toNat≤122)∨(48≤x.toNat∧x.toNat≤57))∨x.toNat=45)):=by
     have:=HC.out;rw[hcc]at this;unfold Hid;intro hh;have h2:(decide (97≤x.toNat)&&decide (x.toNat≤122)||decide (48≤x.toNat)&&decide (x.toNat≤57)||decide (x.toNat=45))=true:=by simpa using hh
     rw[h2]at this;cases this
    have hB:=HB.out hcc;have HB':=qH hB;clear hcc HC HN HB hB;have b5:((x.toNat:Int)==45)=false:=by have:=HCC.out;simp;omega
    have hcases:(123≤x.toNat)∨(97>x.toNat∧58≤x.toNat)∨(x.toNat<48):=by have:=HCC.out;omega
    rcases hcases with a1|⟨a1,a2⟩|a1;·have b1:decide (97≤(x.toNat:Int))=true:=decide_eq_true (by omega);have b2:decide ((x.toNat:Int)≤122)=false:=decide_eq_false (by omega);have b3:decide (48≤(x.toNat:Int))=true:=decide_eq_true (by omega);have b4:decide ((x.toNat:Int)≤57)=false:=decide_eq_false (by omega);go_wp2;go_ret;rw[HB'.out];exact⟨rfl,rfl⟩
    ·have b1:decide (97≤(x.toNat:Int))=false:=decide_eq_false (by omega);have b3:decide (48≤(x.toNat:Int))=true:=decide_eq_true (by omega);have b4:decide ((x.toNat:Int)≤57)=false:=decide_eq_false (by omega);go_wp2;go_ret;rw[HB'.out];exact⟨rfl,rfl⟩
    ·have b1:decide (97≤(x.toNat:Int))=false:=decide_eq_false (by omega);have b3:decide (48≤(x.toNat:Int))=false:=decide_eq_false (by omega);go_wp2;go_ret;rw[HB'.out];exact⟨rfl,rfl⟩
  ·have hB:nameB l=true:=nameB_good (by omega) (by omega) (fun j hj=>HK.out j hj (by omega));have HB':=qH hB;clear hB;go_wp2;go_ret;rw[HB'.out];exact⟨rfl,rfl⟩
def Says(b:Bool)(w:World)(e:Ending)(w':World):Prop:=e=.returned (.bool b)∧Below w.heap.size w w'
def OwnE(w:World)(base:Nat)(v:Value)(es:List Ev):Prop:=w.ownsRow base 74 8 v es.length (evCells es)
def SievePost(w:World)(es:List Ev)(p:Ev→Bool)(e:Ending)(w':World):Prop:= ∃v,e=.returned v∧OwnE w' w.heap.size v (es.filter p)∧Below w.heap.size w w'
theorem OwnE.base_le{w:World}{base base':Nat}{v:Value}{es:List Ev}(h:OwnE w base v es)(hb:base'≤base):OwnE w base' v es:=by
 refine⟨h.1,?_⟩;rcases h.2 with⟨e,hl⟩|⟨g,cap,cur,e,hb',hg,hr⟩;·exact .inl ⟨e,hl⟩
 ·exact .inr ⟨g,cap,cur,e,by omega,hg,hr⟩
def headB(e:Ev):Bool:=nameB e.src&&decide (1≤e.num)&&decide (e.num≤1099511627776)&&decide (0≤e.at_)&&decide (e.at_≤1099511627776)
def forgetB(e:Ev):Bool:=(e.kind==14)&&headB e&&nameB e.per&&e.item.isEmpty&&(e.val==0)&&e.text.isEmpty
def Ev.small(e:Ev):Prop:=e.src.length≤1000000000∧e.per.length≤1000000000∧e.item.length≤1000000000∧e.text.length≤1000000000
theorem may_head(w:World)(e:Ev)(hs:e.small)(hh:headB e=false):Calls Tryz.prog 145 #[e.agg] w (Says false w):=by
 obtain⟨s1,s2,s3,s4⟩:=hs;unfold Ev.agg;have HH:=qH (show(nameB e.src&&decide (1≤e.num)&&decide (e.num≤1099511627776)&&decide (0≤e.at_)&&decide (e.at_≤1099511627776))=false from hh);clear hh;go_enter Tryz.func145,Tryz.ntmps145;go_wp2_with fail;refine(name_any _ e.src s1).mono ?_;rintro r w1⟨rfl,rfl⟩;have hb:Below w.heap.size w (w.alloc (evObj e)):=(Below.refl _ _).alloc (Nat.le_refl _) _;generalize nameB e.src=ns at*;cases ns;·go_wp2;go_ret;exact⟨rfl,hb⟩
 ·by_cases h1:e.num<1;·go_wp2;go_ret;exact⟨rfl,hb⟩
  by_cases h2:1099511627776<e.num;·go_wp2;go_ret;exact⟨rfl,hb⟩
  by_cases h3:e.at_<0;·go_wp2;go_ret;exact⟨rfl,hb⟩
  have h4:1099511627776<e.at_:=by have:=HH.out;simp at this;omega
  go_wp2;go_ret;exact⟨rfl,hb⟩
theorem nameq(w:World)(l:List UInt8)(hm:l.length≤1000000000):Calls Tryz.prog 103 #[.string ⟨l.toArray⟩] w fun e w'=>e=.returned (.bool (nameB l))∧w'=w:=(name_any w l hm).mono fun _ _ h=>⟨h.1,h.2.symm⟩
theorem may_forget(w:World)(e:Ev)(hs:e.small)(hh:headB e=true)(hk:e.kind=14):Calls Tryz.prog 145 #[e.agg] w (Says (nameB e.per&&e.item.isEmpty&&(e.val==0)&&e.text.isEmpty) w):=by
 obtain⟨s1,s2,s3,s4⟩:=hs;have hh':(nameB e.src&&decide (1≤e.num)&&decide (e.num≤1099511627776)&&decide (0≤e.at_)&&decide (e.at_≤1099511627776))=true:=hh;simp only[Bool.and_eq_true,decide_eq_true_eq]at hh';obtain⟨⟨⟨⟨hns,h1⟩,h2⟩,h3⟩,h4⟩:=hh';have HNS:=qH hns;clear hns hh;have d1:decide (e.num<1)=false:=decide_eq_false (by omega);have d2:decide (1099511627776<e.num)=false:=decide_eq_false (by omega);have d3:decide (e.at_<0)=false:=decide_eq_false (by omega);have d4:decide (1099511627776<e.at_)=false:=decide_eq_false (by omega);have HK:=qH hk;clear hk;unfold Ev.agg;go_enter Tryz.func145,Tryz.ntmps145;go_wp2_with fail;refine(name_any _ e.src s1).mono ?_;rintro r w1⟨rfl,rfl⟩;rw[HNS.out];have hb:Below w.heap.size w (w.alloc (evObj e)):=(Below.refl _ _).alloc (Nat.le_refl _) _;obtain⟨f0,f1,f2,f3,f4,f5,f6,f7⟩:=EvIn.new w e;generalize w.alloc (evObj e)=w1 at*;rw[HK.out]at f3;go_wp2;clear d1 d2 d3 d4;go_quiet((go_at_call 103;exact Calls.quiet_of_same (nameq _ _ (by assumption))));have hbq:Below w.heap.size w (w1.drewN nq):=below_drewN hb nq;generalize nameB e.per=np at*;generalize nameB e.item=ni at*;cases np;·go_wp2;go_ret;exact⟨rfl,hbq⟩
 cases hi:e.item.isEmpty;·go_wp2;go_ret;exact⟨by rw[hi];rfl,hbq⟩
 cases hv:(e.val==0);·go_wp2;go_ret;exact⟨by rw[hi,hv];rfl,hbq⟩
 go_wp2;go_ret;exact⟨by rw[hi,hv];rfl,hbq⟩
open Go.Maps Go.Sort
def boundI(n:Int):Int:=min (max n 0) 1099511627776
theorem boundI_lo(n:Int):0≤boundI n:=by unfold boundI;omega
theorem boundI_hi(n:Int):boundI n≤1099511627776:=by unfold boundI;omega
def leastI:List Int→Option Int|[]=>none|x::r=>match leastI r with|none=>some x|some y=>some (if x≤y then x else y)
theorem leastI_none{l:List Int}:leastI l=none↔l=[]:=by cases l with|nil=>simp[leastI]|cons x r=>simp only[leastI];split<;>simp
theorem leastI_some{l:List Int}{m:Int}:leastI l=some m↔m∈l∧ ∀x∈l,m≤x:=by
 induction l generalizing m with
  |nil=>simp[leastI]
  |cons x r ih=>
   simp only[leastI];cases hr:leastI r with
    |none=>
     have:=leastI_none.1 hr;subst this;simp;constructor;·rintro rfl;exact⟨rfl,Int.le_refl _⟩
     ·exact fun h=>h.1.symm
    |some y=>
     obtain⟨h1,h2⟩:=ih.1 hr;simp only[Option.some.injEq,List.mem_cons];constructor
     ·rintro rfl;split
      ·refine⟨.inl rfl,fun z hz=>?_⟩;rcases hz with rfl|hz;·exact Int.le_refl _
       ·have:=h2 z hz;omega
      ·refine⟨.inr h1,fun z hz=>?_⟩;rcases hz with rfl|hz;·omega
       ·exact h2 z hz
     ·rintro⟨h3,h4⟩;have a1:=h4 x (.inl rfl);have a2:=h4 y (.inr h1);rcases h3 with rfl|h3;·rw[if_pos a2]
      ·have:=h2 m h3;split<;>omega
structure Clk where
 slack:Int
 idle:Int
 now:Int
 mark:Int
 src:Row (Int×Int)
def actB(idle now:Int)(s:Int×Int):Bool:=decide (idle=0)||decide (now-s.2≤idle)
def Clk.told(c:Clk):Option Int:=leastI ((c.src.filter fun p=>actB c.idle c.now p.2).map fun p=>p.2.1-c.slack-1)
def Clk.rise(c:Clk):Clk:=match c.told with|none=>c|some m=>{c with mark:=max c.mark m}
def Clk.tick(c:Clk)(now:Int):Clk:=({c with now:=max c.now (boundI now)}:Clk).rise
def Clk.hears(c:Clk)(name:List UInt8)(at_:Int):Bool:=nameB name&&decide (0≤at_)&&decide (at_≤1099511627776)&&decide (c.mark<at_)
def Clk.heard(c:Clk)(name:List UInt8)(at_:Int):Clk:=({c with src:=putB name (max ((getB c.src name).getD (0,0)).1 at_,c.now) c.src}:Clk).rise
def Clk.hear(c:Clk)(name:List UInt8)(at_ now:Int):Clk:=if(c.tick now).hears name at_ then(c.tick now).heard name at_ else c.tick now
def Clk.new(slack idle:Int):Clk:=⟨boundI slack,boundI idle,0,-1,[]⟩
structure ClkOk(c:Clk):Prop where
 slack:0≤c.slack∧c.slack≤1099511627776
 idle:0≤c.idle∧c.idle≤1099511627776
 now:0≤c.now∧c.now≤1099511627776
 mark: -1≤c.mark∧c.mark≤1099511627776
 rising:RowUp c.src
 src: ∀p∈c.src,nameB p.1=true∧0≤p.2.1∧p.2.1≤1099511627776∧0≤p.2.2∧p.2.2≤c.now
theorem told_some{c:Clk}{m:Int}:c.told=some m↔(∃p∈c.src,actB c.idle c.now p.2=true∧m=p.2.1-c.slack-1)∧ ∀p∈c.src,actB c.idle c.now p.2=true→m≤p.2.1-c.slack-1:=by
 unfold Clk.told;rw[leastI_some];simp only[List.mem_map,List.mem_filter];constructor;·rintro⟨⟨p,⟨h1,h2⟩,rfl⟩,h3⟩;exact⟨⟨p,h1,h2,rfl⟩,fun q hq ha=>h3 _ ⟨q,⟨hq,ha⟩,rfl⟩⟩
 ·rintro⟨⟨p,h1,h2,rfl⟩,h3⟩;refine⟨⟨p,⟨h1,h2⟩,rfl⟩,?_⟩;rintro _⟨q,⟨hq,ha⟩,rfl⟩;exact h3 q hq ha
theorem told_none{c:Clk}:c.told=none↔ ∀p∈c.src,actB c.idle c.now p.2=false:=by
 unfold Clk.told;rw[leastI_none];simp only[List.map_eq_nil_iff,List.filter_eq_nil_iff];constructor;·intro h p hp;simpa using h p hp
 ·intro h p hp;simp[h p hp]
theorem ClkOk.told{c:Clk}(h:ClkOk c){m:Int}(ht:c.told=some m): -1099511627777≤m∧m≤1099511627776:=by obtain⟨⟨p,hp,_,rfl⟩,_⟩:=told_some.1 ht;have:=h.src p hp;have:=h.slack;omega
theorem ClkOk.rise{c:Clk}(h:ClkOk c):ClkOk c.rise:=by unfold Clk.rise;cases ht:c.told with|none=>exact h|some m=>have:=h.told ht;have:=h.mark;exact⟨h.slack,h.idle,h.now,by simp only;omega,h.rising,h.src⟩
theorem ClkOk.said{c:Clk}(h:ClkOk c){name:List UInt8}{at_:Int}(hh:c.hears name at_=true):ClkOk {c with src:=putB name (max ((getB c.src name).getD (0,0)).1 at_,c.now) c.src}:=by
 unfold Clk.hears at hh;simp only[Bool.and_eq_true,decide_eq_true_eq]at hh;obtain⟨⟨⟨h1,h2⟩,h3⟩,h4⟩:=hh;have hn:=h.now;refine⟨h.slack,h.idle,h.now,h.mark,putB_rising h.rising _ _,fun p hp=>?_⟩;rcases putB_mem.1 hp with rfl|⟨hp,_⟩;·refine⟨h1,?_⟩;cases hg:getB c.src name with|none=>simp only[Option.getD_none];omega|some q=>have:=h.src _ (getB_mem hg);simp only[Option.getD_some]at*;omega
 ·exact h.src p hp
theorem tick_len(c:Clk)(now:Int):(c.tick now).src.length=c.src.length:=by unfold Clk.tick Clk.rise;split<;>rfl
theorem hear_len(c:Clk)(name:List UInt8)(at_ now:Int):(c.hear name at_ now).src.length≤c.src.length+1:=by
 unfold Clk.hear;split
 ·have:((c.tick now).heard name at_).src=putB name (max ((getB (c.tick now).src name).getD (0,0)).1 at_,(c.tick now).now) (c.tick now).src:=by unfold Clk.heard Clk.rise;split<;>rfl
  rw[this];have:=putB_length_le (c.tick now).src name (max ((getB (c.tick now).src name).getD (0,0)).1 at_,(c.tick now).now);rw[tick_len]at this;exact this
 ·rw[tick_len];omega
theorem ClkOk.new(slack idle:Int):ClkOk (Clk.new slack idle):=⟨⟨boundI_lo _,boundI_hi _⟩,⟨boundI_lo _,boundI_hi _⟩,by simp[Clk.new],by simp[Clk.new],by simp[Clk.new,RowUp],fun p hp=>by simp[Clk.new]at hp⟩
theorem rise_rise(c:Clk):c.rise.rise=c.rise:=by unfold Clk.rise;cases ht:c.told with|none=>simp only[ht]|some m=>simp only;have:({c with mark:=max c.mark m}:Clk).told=some m:=ht;rw[this];simp only;congr 1;omega
theorem rise_now(c:Clk):c.rise.now=c.now:=by unfold Clk.rise;split<;>rfl
theorem rise_src(c:Clk):c.rise.src=c.src:=by unfold Clk.rise;split<;>rfl
theorem evCells_take(es:List Ev)(k:Nat):(evCells es).take (k*8)=evCells (es.take k):=by
 induction es generalizing k with
  |nil=>simp[evCells]
  |cons e es ih=>
   have hc:e.cells.length=8:=rfl;cases k with
    |zero=>simp[evCells]
    |succ k=>
     have:evCells (e::es)=e.cells++evCells es:=by simp[evCells]
     rw[this,List.take_append,hc,List.take_of_length_le (by rw[hc];omega),show(k+1)*8-8=k*8 by omega,ih];simp[evCells]
theorem OwnE.down{w:World}{base base':Nat}{v:Value}{l:List Ev}(h:OwnE w base v l)(hb:base'≤base):OwnE w base' v l:=by
 refine⟨h.1,?_⟩;rcases h.2 with h'|⟨g,cap,cur,e,hg,r⟩;·exact .inl h'
 ·exact .inr ⟨g,cap,cur,e,Nat.le_trans hb hg,r⟩
open Go.Shelf
def GonePost(w:World)(ks:List (List UInt8))(e:Ending)(w':World):Prop:= ∃v r,e=.returned v∧Rising r ks∧w'.ownsRow w.heap.size 9 1 v r.length (r.map encStr)∧Below w.heap.size w w'
theorem nodup_dedup(ks:List (List UInt8)): ∃ss:List (List UInt8),ss.Nodup∧ ∀x,x∈ss↔x∈ks:=by
 induction ks with
  |nil=>exact⟨[],List.nodup_nil,fun x=>Iff.rfl⟩
  |cons k ks ih=>
   obtain⟨ss,h1,h2⟩:=ih;by_cases h:k∈ks;·exact⟨ss,h1,fun x=>by rw[h2 x];simp;intro e;subst e;exact h⟩
   ·exact⟨k::ss,List.nodup_cons.2 ⟨fun hk=>h ((h2 k).1 hk),h1⟩,fun x=>by simp[h2 x]⟩
def SearchPost(n:Nat)(p:Nat→Bool)(w:World)(e:Ending)(w':World):Prop:= ∃k:Nat,e=.returned (.int .i64 k)∧k≤n∧(∀i,i<k→p i=false)∧(∀i,k≤i→i<n→p i=true)∧Below w.heap.size w w'
def SearchRel(n:Nat)(p:Nat→Bool)(w:World)(s5 s6:Value)(wr:World):Prop:= ∃lo hi:Nat,s5=.int .i64 lo∧s6=.int .i64 hi∧lo≤hi∧hi≤n∧Below w.heap.size w wr∧(∀i,i<lo→p i=false)∧(∀i,hi≤i→i<n→p i=true)
theorem search_any(w:World)(g:Nat)(cb:Array Value)(n:Nat)(p:Nat→Bool)(hn:n≤1000000000)(hcall: ∀(args:Array Value)(w:World),(callFunc g args).run Tryz.prog w=.ok (.enter g args) w)(hf: ∀(w1:World)(i:Nat),Below w.heap.size w w1→i<n→Calls Tryz.prog g (#[.int .i64 i]++cb) w1 (Says (p i) w1))(hmono: ∀i j,i≤j→j<n→p i=true→p j=true):Calls Tryz.prog 134 #[.int .i64 n,.func (.func g) #[] cb] w (SearchPost n p w):=by
 have HF:=qH hf;have HM:=qH hmono;clear hf hmono;go_enter Tryz.func134,Tryz.ntmps134;go_wp2;go_loopw[5,6](fun s5 s6 wr=>SearchRel n p w s5 s6 wr)(fun s5 s6 _=>(intOf s6-intOf s5).toNat);case atStart=>exact⟨0,n,rfl,rfl,Nat.zero_le _,Nat.le_refl _,Below.refl _ _,fun i h=>by omega,fun i h h'=>by omega⟩
 case round=>
  obtain⟨lo,hi,rfl,rfl,hlh,hhn,hbel,h1,h2⟩:=hrel;have H1:=qH h1;have H2:=qH h2;clear h1 h2;by_cases hlt:lo<hi
  ·have hc:=HF.out wr ((lo+hi)/2) hbel (by omega);rw[show(((lo+hi)/2:Nat):Int)=((lo:Int)+(hi:Int))/2 by omega]at hc;have HC:=qH hc;clear hc;go_wp2_with fail;refine HC.out.mono ?_;rintro e w1⟨rfl,hb1⟩;have hbw:Below w.heap.size w w1:=hbel.trans (hb1.mono hbel.size);clear hb1 hcall;cases hp:p ((lo+hi)/2)
   ·have HP:=qH hp;clear hp;go_wp2;go_roundw;case rel=>
     refine⟨(lo+hi)/2+1,hi,by go_num,rfl,by omega,hhn,hbw,fun i hi'=>?_,H2.out⟩;cases hpi:p i;·rfl
     ·have:=HM.out i ((lo+hi)/2) (by omega) (by omega) hpi;rw[HP.out]at this;cases this
    case measure=>simp[intOf];omega
   ·have HP:=qH hp;clear hp;go_wp2;go_roundw;case rel=>refine⟨lo,(lo+hi)/2,rfl,by go_num,by omega,by omega,hbw,H1.out,fun i hi' hn'=>?_⟩;exact HM.out _ _ hi' hn' HP.out
    case measure=>simp[intOf];omega
  ·have e:hi=lo:=by omega
   have HE:=qH e;clear e;go_wp2;go_ret;exact⟨lo,rfl,by omega,H1.out,fun i hi' hn'=>H2.out i (by rw[HE.out];exact hi') hn',hbel⟩
end Go.Proofs.YtcmmclliabhnjaaGreatDoor
