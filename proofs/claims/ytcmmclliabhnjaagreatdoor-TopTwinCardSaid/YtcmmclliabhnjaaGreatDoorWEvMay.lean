/-
  Layer 2: event.Compare.
-/
import Derived.Test.YtcmmclliabhnjaaGreatDoorWTwCc
import Derived.WalkLawsBesides
import Derived.Test.YtcmmclliabhnjaaGreatDoorWEvForget
import Derived.StillTailTactics
set_option maxRecDepth 100000
set_option maxHeartbeats 16000000
namespace Go.Proofs.YtcmmclliabhnjaaGreatDoor
open Go.RowKit Go.Maps Go.Sort
def tagB(ts:List (List UInt8))(j:Nat):Bool:=nameB (ts.getD j [])&&(j==0||Op.bytesLess (ts.getD (j-1) []) (ts.getD j []))
def tagsB(ts:List (List UInt8)):Bool:=(List.range ts.length).all (tagB ts)
def listingB(s:List UInt8):Bool:=(Lib.cut s [59]).2.2&&nameB (Lib.cut s [59]).1&&decide ((tagsL s).length≤8)&&tagsB (tagsL s)
theorem cut1_length(s:List UInt8):(Lib.cut s [59]).1.length≤s.length:=by
 unfold Lib.cut;split;·simp;omega
 ·simp
theorem name_all(w:World)(l:List UInt8):Calls Tryz.prog 103 #[.string ⟨l.toArray⟩] w fun e w'=>e=.returned (.bool (nameB l))∧w=w':=by
 by_cases h:l.length≤1000000000;·exact name_any w l h
 ·have h24:24<l.length:=by omega
  have h0: ¬l.length<1:=by omega
  go_enter Tryz.func103,Tryz.ntmps103;go_wp2;go_ret;rw[nameB_short (.inr h24)];exact⟨rfl,rfl⟩
def ListRel(ts:List (List UInt8))(w2:World)(i:Value)(wr:World):Prop:= ∃k:Nat,i=.int .i64 k∧k≤ts.length∧wr=w2∧Hid (∀j,j<k→tagB ts j=true)
theorem listing_any(w:World)(s:List UInt8)(hs:s.length≤1000000000)(hm:MaxAt w):Calls Tryz.prog 189 #[.string ⟨s.toArray⟩] w (Says (listingB s) w):=by
 have HMA:=qH hm;obtain⟨m,hmc⟩:=hm;have HM:=qH hmc;clear hmc;have HLB:=qH (show listingB s=((Lib.cut s [59]).2.2&&nameB (Lib.cut s [59]).1&&decide ((tagsL s).length≤8)&&tagsB (tagsL s))from rfl);have hcl:=cut1_length s;go_enter Tryz.func189,Tryz.ntmps189;go_wp2_with fail;refine(Tryz.strings_Cut ⟨s.toArray⟩ ⟨#[59]⟩ m w (by simp[ByteArray.size];omega) HM.out).mono ?_;rintro q w1⟨rfl,n1,rfl⟩;simp only;have hb1:Below w.heap.size w (w.drewN n1):=below_drewN (Below.refl _ _) n1;generalize(Lib.cut s [59]).1=mk at*;generalize(Lib.cut s [59]).2.1=rs at*;generalize(Lib.cut s [59]).2.2=ok at*;have HM1:=qH (HMA.out.up hb1);generalize w.drewN n1=w1 at*;cases ok;·go_wp2;go_ret;exact⟨ret_bool (by rw[HLB.out];rfl),hb1⟩
 go_wp2_with fail;refine(name_any w1 mk (by omega)).mono ?_;rintro q w2⟨rfl,rfl⟩;generalize nameB mk=nm at*;cases nm;·go_wp2;go_ret;exact⟨ret_bool (by rw[HLB.out];rfl),hb1⟩
 go_wp2_with fail;refine(tags_any w1 s hs HM1.out).mono ?_;rintro q w2⟨A,c,rfl,hst,hb2⟩;have hbw2:Below w.heap.size w w2:=hb1.trans (hb2.mono hb1.size);have HS:=qH hst;clear hst;generalize tagsL s=ts at*;by_cases h8:8<ts.length
 ·have t8:(8:Int)<ts.length:=by omega
  have HF:=qH (show listingB s=false by rw[HLB.out,decide_eq_false (show¬ts.length≤8 by omega)];simp);go_wp2;go_ret;exact⟨ret_bool HF.out.symm,hbw2⟩
 have HG:=qH (show listingB s=tagsB ts by rw[HLB.out,decide_eq_true (show ts.length≤8 by omega)];simp);clear HLB;go_wp2;go_loopw[29](fun i wr=>ListRel ts w2 i wr)(fun i _=>ts.length-(intOf i).toNat);case atStart=>exact⟨0,rfl,Nat.zero_le _,rfl,fun j h=>by omega⟩
 case round=>
  obtain⟨k,rfl,hk,rfl,HK⟩:=hrel;by_cases hkn:k<ts.length
  ·obtain⟨b,off,rfl,hb,hc⟩:=HS.out.at_ k hkn;have HB:=qH (show tagB ts k=(nameB ts[k]&&(k==0||Op.bytesLess (ts.getD (k-1) []) ts[k]))by unfold tagB;simp[List.getD,List.getElem?_eq_getElem hkn]);have HNO:=qH (show tagB ts k=false→tagsB ts=false from fun h=>by unfold tagsB;rw[List.all_eq_false];exact⟨k,by simpa using hkn,by simp[h]⟩);have HYES:=qH (show tagB ts k=true→ ∀j,j<k+1→tagB ts j=true from fun h j hj=>by
    by_cases e:j=k;·subst e;exact h
    ·exact HK.out j (by omega));have hts:ts.length≤8:=by omega
   have HC1:=qH (show 0<k→wr.cell? ⟨b,off+(k-1),none⟩=some (.string ⟨(ts.getD (k-1) []).toArray⟩)from fun h0=>by obtain⟨b',off',e',_,hc'⟩:=HS.out.at_ (k-1) (by omega);injection e' with e';injection e' with e1 e2;subst e1 e2;rw[hc'];simp[List.getD,List.getElem?_eq_getElem (show k-1<ts.length by omega)]);generalize ts.getD (k-1) []=q at*;have t1:(k:Int)<ts.length:=by omega
   generalize ts[k]=t at*;go_wp2_with fail;refine(name_all wr t).mono ?_;rintro e w3⟨rfl,rfl⟩;generalize nameB t=nt at*;cases nt;·have HF:=qH (HNO.out (by rw[HB.out];rfl));go_wp2;go_ret;exact⟨ret_bool (by rw[HG.out,HF.out]),hbw2⟩
   by_cases k0:k=0
   ·subst k0;have HY:=qH (HYES.out (by rw[HB.out];rfl));go_wp2;go_roundw;case rel=>exact⟨1,by go_num,by omega,rfl,HY.out⟩
    case measure=>simp[intOf];omega
   ·have hc1:=HC1.out (by omega);have k1:(0:Int)<k:=by omega
    have ek:(k:Int)-1=((k-1:Nat):Int):=by omega
    have HBL:=qH (show tagB ts k=Op.bytesLess q t by rw[HB.out];simp[k0]);cases hbl:Op.bytesLess q t;·have HF:=qH (HNO.out (HBL.out.trans hbl));go_wp2;go_ret;exact⟨ret_bool (by rw[HG.out,HF.out]),hbw2⟩
    ·have HY:=qH (HYES.out (HBL.out.trans hbl));go_wp2;go_roundw;case rel=>exact⟨k+1,by go_num,by omega,rfl,HY.out⟩
     case measure=>simp[intOf];omega
  ·have HT:=qH (show tagsB ts=true by
    unfold tagsB;rw[List.all_eq_true];intro j hj;exact HK.out j (by
     have:j<ts.length:=by simpa using hj
     omega));go_wp2;go_ret;exact⟨ret_bool (by rw[HG.out,HT.out]),hbw2⟩
def tailB(e:Ev):Bool:=if e.kind=0 then nameB e.per&&nameB e.item&&(e.val==0)&&e.text.isEmpty else if e.kind=1 then nameB e.per&&nameB e.item&&(e.val==0)&&e.text.isEmpty else if e.kind=2 then nameB e.per&&nameB e.item&&(e.val==0)&&e.text.isEmpty else if e.kind=3 then nameB e.per&&nameB e.item&&(e.val==0)&&e.text.isEmpty else if e.kind=4 then nameB e.per&&nameB e.item&&decide (1≤e.val)&&decide (e.val≤5)&&e.text.isEmpty else if e.kind=5 then nameB e.per&&nameB e.item&&(e.val==0)&&e.text.isEmpty else if e.kind=6 then nameB e.per&&nameB e.item&&(e.val==0)&&e.text.isEmpty else if e.kind=7 then nameB e.per&&e.item.isEmpty&&(e.val==0)&&nameB e.text else if e.kind=8 then nameB e.per&&e.item.isEmpty&&(e.val==0)&&nameB e.text else if e.kind=9 then nameB e.per&&e.item.isEmpty&&(e.val==0)&&nameB e.text else if e.kind=10 then nameB e.per&&e.item.isEmpty&&(e.val==0)&&nameB e.text else if e.kind=11 then e.per.isEmpty&&nameB e.item&&decide (0≤e.val)&&decide (e.val≤1048576)&&listingB e.text else if e.kind=12 then e.per.isEmpty&&nameB e.item&&decide (0≤e.val)&&decide (e.val≤1048576)&&e.text.isEmpty else if e.kind=13 then e.per.isEmpty&&nameB e.item&&(e.val==0)&&e.text.isEmpty else if e.kind=14 then nameB e.per&&e.item.isEmpty&&(e.val==0)&&e.text.isEmpty else false
def mayB(e:Ev):Bool:=headB e&&tailB e
theorem nameq'(w:World)(l:List UInt8):Calls Tryz.prog 103 #[.string ⟨l.toArray⟩] w fun e w'=>e=.returned (.bool (nameB l))∧w'=w:=(name_all w l).mono fun _ _ h=>⟨h.1,h.2.symm⟩
theorem may_tail(w:World)(e:Ev)(hs:e.small)(hmx:MaxAt w)(hh:headB e=true)(hnf:e.kind≠14):Calls Tryz.prog 145 #[e.agg] w (Says (tailB e) w):=by
 obtain⟨s1,s2,s3,s4⟩:=hs;have HMX:=qH hmx;clear hmx;generalize htb:tailB e=tb;have HTB:=qH htb;clear htb;have hh':(nameB e.src&&decide (1≤e.num)&&decide (e.num≤1099511627776)&&decide (0≤e.at_)&&decide (e.at_≤1099511627776))=true:=hh;simp only[Bool.and_eq_true,decide_eq_true_eq]at hh';obtain⟨⟨⟨⟨hns,h1⟩,h2⟩,h3⟩,h4⟩:=hh';have HNS:=qH hns;clear hns hh;have d1:decide (e.num<1)=false:=decide_eq_false (by omega);have d2:decide (1099511627776<e.num)=false:=decide_eq_false (by omega);have d3:decide (e.at_<0)=false:=decide_eq_false (by omega);have d4:decide (1099511627776<e.at_)=false:=decide_eq_false (by omega);unfold Ev.agg;go_enter Tryz.func145,Tryz.ntmps145;go_wp2_with fail;refine(name_all _ e.src).mono ?_;rintro r w1⟨rfl,rfl⟩;rw[HNS.out];have hb:Below w.heap.size w (w.alloc (evObj e)):=(Below.refl _ _).alloc (Nat.le_refl _) _;obtain⟨f0,f1,f2,f3,f4,f5,f6,f7⟩:=EvIn.new w e;generalize w.alloc (evObj e)=w1 at*;generalize hke:e.kind=kd at*;have HKE:=qH hke;clear hke;go_wp2;clear d1 d2 d3 d4;go_quiet((go_at_call 103;exact Calls.quiet_of_same (nameq' _ _)));have hbq:Below w.heap.size w (w1.drewN nq):=below_drewN hb nq;by_cases hx:kd<0∨14<kd;·have HT:=qH (show tb=false by rw[←HTB.out];unfold tailB;rw[HKE.out];rw[if_neg (by omega),if_neg (by omega),if_neg (by omega),if_neg (by omega),if_neg (by omega),if_neg (by omega),if_neg (by omega),if_neg (by omega),if_neg (by omega),if_neg (by omega),if_neg (by omega),if_neg (by omega),if_neg (by omega),if_neg (by omega),if_neg (by omega)]);have hq: ∀j:Int,0≤j→j≤14→(kd==j)=false:=fun j _ _=>beq_eq_false_iff_ne.2 (by omega);have k0:=hq 0 (by decide) (by decide);have k1:=hq 1 (by decide) (by decide);have k2:=hq 2 (by decide) (by decide);have k3:=hq 3 (by decide) (by decide);have k4:=hq 4 (by decide) (by decide);have k5:=hq 5 (by decide) (by decide);have k6:=hq 6 (by decide) (by decide);have k7:=hq 7 (by decide) (by decide);have k8:=hq 8 (by decide) (by decide);have k9:=hq 9 (by decide) (by decide);have k10:=hq 10 (by decide) (by decide);have k11:=hq 11 (by decide) (by decide);have k12:=hq 12 (by decide) (by decide);have k13:=hq 13 (by decide) (by decide);have k14:=hq 14 (by decide) (by decide);clear hq hx;generalize nameB e.per=np at*;generalize nameB e.item=ni at*;go_wp2;go_ret;exact⟨ret_bool HT.out.symm,hbq⟩
 rcases(show(kd=0∨kd=1∨kd=2∨kd=3∨kd=5∨kd=6)∨(kd=4)∨(kd=7∨kd=8∨kd=9∨kd=10)∨(kd=11)∨(kd=12)∨(kd=13)by omega)with hk|hk|hk|hk|hk|hk
 ·have HT:=qH (show tb=(nameB e.per&&nameB e.item&&(e.val==0)&&e.text.isEmpty)by rw[←HTB.out];unfold tailB;rw[HKE.out];rcases hk with rfl|rfl|rfl|rfl|rfl|rfl<;>rfl);clear hx;rcases hk with rfl|rfl|rfl|rfl|rfl|rfl;all_goals
   generalize nameB e.per=np at*;generalize nameB e.item=ni at*;cases np;·go_wp2;go_ret;exact⟨ret_bool (by rw[HT.out];first|rfl|simp),hbq⟩
   cases ni;·go_wp2;go_ret;exact⟨ret_bool (by rw[HT.out];first|rfl|simp),hbq⟩
   cases zv0:(e.val==0);·go_wp2;go_ret;exact⟨ret_bool (by rw[HT.out];rw[zv0];rfl),hbq⟩
   go_wp2;go_ret;exact⟨ret_bool (by rw[HT.out];rw[zv0];first|rfl|simp),hbq⟩
 ·have HT:=qH (show tb=(nameB e.per&&nameB e.item&&decide (1≤e.val)&&decide (e.val≤5)&&e.text.isEmpty)by rw[←HTB.out];unfold tailB;rw[HKE.out];rw[hk];rfl);subst hk;clear hx;generalize nameB e.per=np at*;generalize nameB e.item=ni at*;cases np;·go_wp2;go_ret;exact⟨ret_bool (by rw[HT.out];first|rfl|simp),hbq⟩
  cases ni;·go_wp2;go_ret;exact⟨ret_bool (by rw[HT.out];first|rfl|simp),hbq⟩
  cases zv1:decide (1≤e.val);·go_wp2;go_ret;exact⟨ret_bool (by rw[HT.out];rw[zv1];rfl),hbq⟩
  cases zv5:decide (e.val≤5);·go_wp2;go_ret;exact⟨ret_bool (by rw[HT.out];rw[zv1];rw[zv5];rfl),hbq⟩
  go_wp2;go_ret;exact⟨ret_bool (by rw[HT.out];rw[zv1];rw[zv5];first|rfl|simp),hbq⟩
 ·have HT:=qH (show tb=(nameB e.per&&e.item.isEmpty&&(e.val==0)&&nameB e.text)by rw[←HTB.out];unfold tailB;rw[HKE.out];rcases hk with rfl|rfl|rfl|rfl<;>rfl);clear hx;rcases hk with rfl|rfl|rfl|rfl;all_goals
   generalize nameB e.per=np at*;generalize nameB e.item=ni at*;cases np;·go_wp2;go_ret;exact⟨ret_bool (by rw[HT.out];first|rfl|simp),hbq⟩
   cases zie:e.item.isEmpty;·go_wp2;go_ret;exact⟨ret_bool (by rw[HT.out];rw[zie];rfl),hbq⟩
   cases zv0:(e.val==0);·go_wp2;go_ret;exact⟨ret_bool (by rw[HT.out];rw[zie];rw[zv0];rfl),hbq⟩
   go_wp2_with fail;refine(name_all _ e.text).mono ?_;rintro r w2⟨rfl,rfl⟩;generalize nameB e.text=nt at*;go_wp2;go_ret;exact⟨ret_bool (by rw[HT.out];rw[zie];rw[zv0];rfl),hbq⟩
 ·have HT:=qH (show tb=(e.per.isEmpty&&nameB e.item&&decide (0≤e.val)&&decide (e.val≤1048576)&&listingB e.text)by rw[←HTB.out];unfold tailB;rw[HKE.out];rw[hk];rfl);subst hk;clear hx;generalize nameB e.per=np at*;generalize nameB e.item=ni at*;cases zpe:e.per.isEmpty;·go_wp2;go_ret;exact⟨ret_bool (by rw[HT.out];rw[zpe];rfl),hbq⟩
  cases ni;·go_wp2;go_ret;exact⟨ret_bool (by rw[HT.out];rw[zpe];first|rfl|simp),hbq⟩
  cases zv0l:decide (0≤e.val);·go_wp2;go_ret;exact⟨ret_bool (by rw[HT.out];rw[zpe];rw[zv0l];rfl),hbq⟩
  cases zv20:decide (e.val≤1048576);·go_wp2;go_ret;exact⟨ret_bool (by rw[HT.out];rw[zpe];rw[zv0l];rw[zv20];rfl),hbq⟩
  have HMQ:=qH (show MaxAt (w1.drewN nq)from HMX.out.up hbq);go_wp2_with fail;refine(listing_any (w1.drewN nq) e.text s4 HMQ.out).mono ?_;rintro r w3⟨rfl,hb3⟩;have hbz:Below w.heap.size w w3:=hbq.trans (hb3.mono hbq.size);generalize listingB e.text=li at*;go_wp2;go_ret;exact⟨ret_bool (by rw[HT.out];rw[zpe];rw[zv0l];rw[zv20];rfl),hbz⟩
 ·have HT:=qH (show tb=(e.per.isEmpty&&nameB e.item&&decide (0≤e.val)&&decide (e.val≤1048576)&&e.text.isEmpty)by rw[←HTB.out];unfold tailB;rw[HKE.out];rw[hk];rfl);subst hk;clear hx;generalize nameB e.per=np at*;generalize nameB e.item=ni at*;cases zpe:e.per.isEmpty;·go_wp2;go_ret;exact⟨ret_bool (by rw[HT.out];rw[zpe];rfl),hbq⟩
  cases ni;·go_wp2;go_ret;exact⟨ret_bool (by rw[HT.out];rw[zpe];first|rfl|simp),hbq⟩
  cases zv0l:decide (0≤e.val);·go_wp2;go_ret;exact⟨ret_bool (by rw[HT.out];rw[zpe];rw[zv0l];rfl),hbq⟩
  cases zv20:decide (e.val≤1048576);·go_wp2;go_ret;exact⟨ret_bool (by rw[HT.out];rw[zpe];rw[zv0l];rw[zv20];rfl),hbq⟩
  go_wp2;go_ret;exact⟨ret_bool (by rw[HT.out];rw[zpe];rw[zv0l];rw[zv20];first|rfl|simp),hbq⟩
 ·have HT:=qH (show tb=(e.per.isEmpty&&nameB e.item&&(e.val==0)&&e.text.isEmpty)by rw[←HTB.out];unfold tailB;rw[HKE.out];rw[hk];rfl);subst hk;clear hx;generalize nameB e.per=np at*;generalize nameB e.item=ni at*;cases zpe:e.per.isEmpty;·go_wp2;go_ret;exact⟨ret_bool (by rw[HT.out];rw[zpe];rfl),hbq⟩
  cases ni;·go_wp2;go_ret;exact⟨ret_bool (by rw[HT.out];rw[zpe];first|rfl|simp),hbq⟩
  cases zv0:(e.val==0);·go_wp2;go_ret;exact⟨ret_bool (by rw[HT.out];rw[zpe];rw[zv0];rfl),hbq⟩
  go_wp2;go_ret;exact⟨ret_bool (by rw[HT.out];rw[zpe];rw[zv0];first|rfl|simp),hbq⟩
theorem may_any(w:World)(e:Ev)(hs:e.small)(hmx:MaxAt w):Calls Tryz.prog 145 #[e.agg] w (Says (mayB e) w):=by
 unfold mayB;cases hh:headB e;·exact may_head w e hs hh
 rw[Bool.true_and];by_cases hk:e.kind=14
 ·have hq:tailB e=(nameB e.per&&e.item.isEmpty&&(e.val==0)&&e.text.isEmpty):=by unfold tailB;rw[hk];rfl
  rw[hq];exact may_forget w e hs hh hk
 ·exact may_tail w e hs hmx hh hk
def orI(a b c:Int):Int:=if a≠0 then a else if b≠0 then b else c
def cmpE(a b:Ev):Int:=orI (Lib.compareInt a.at_ b.at_) (Lib.compareBytes a.src b.src) (Lib.compareInt a.num b.num)
theorem or3_any(w:World)(b:Nat)(x y z:Int)(h0:w.cell? ⟨b,0,none⟩=some (.int .i64 x))(h1:w.cell? ⟨b,1,none⟩=some (.int .i64 y))(h2:w.cell? ⟨b,2,none⟩=some (.int .i64 z)):Calls Tryz.prog 118 #[.slice (some ⟨b,0,none⟩) 3 3] w fun e w'=>e=.returned (.int .i64 (orI x y z))∧w=w':=by
 have HO:=qH (show orI x y z=if x≠0 then x else if y≠0 then y else z from rfl);have hget: ∀k:Nat,k<3→w.cell? ⟨b,0+k,none⟩=some (.int .i64 ([x,y,z].getD k 0)):=fun k hk=>by
  rcases(show k=0∨k=1∨k=2 by omega)with rfl|rfl|rfl;·exact h0
  ·exact h1
  ·exact h2
 have HG:=qH hget;have HR:=qH (show∀k:Nat,k<3→(∀j,j<k→[x,y,z].getD j 0=0)→[x,y,z].getD k 0≠0→orI x y z=[x,y,z].getD k 0 from fun k hk hz hn=>by
  rcases(show k=0∨k=1∨k=2 by omega)with rfl|rfl|rfl;·simp at hn;simp[orI,hn]
  ·have a0:=hz 0 (by omega);simp at hn a0;simp[orI,hn,a0]
  ·have a0:=hz 0 (by omega);have a1:=hz 1 (by omega);simp at hn a0 a1;simp[orI,a0,a1]);have HE:=qH (show(∀j,j<3→[x,y,z].getD j 0=0)→orI x y z=0 from fun hz=>by have a0:=hz 0 (by omega);have a1:=hz 1 (by omega);have a2:=hz 2 (by omega);simp at a0 a1 a2;simp[orI,a0,a1,a2]);clear hget h0 h1 h2 HO;generalize orI x y z=r at*;generalize[x,y,z]=l at*;go_enter Tryz.func118,Tryz.ntmps118;go_wp2;go_loop[8](fun i=> ∃k:Nat,i=.int .i64 k∧k≤3∧Hid (∀j,j<k→l.getD j 0=0))(fun i=>3-(intOf i).toNat);case atStart=>exact⟨0,rfl,by omega,fun j hj=>by omega⟩
 case round=>
  obtain⟨k,rfl,hk,HZ⟩:=hrel;by_cases hk3:k<3
  ·have hc:=HG.out k hk3;have HRK:=qH (HR.out k hk3 HZ.out);have HN:=qH (show l.getD k 0=0→ ∀j,j<k+1→l.getD j 0=0 from fun h j hj=>by
    by_cases e:j=k;·subst e;exact h
    ·exact HZ.out j (by omega));rw[Nat.zero_add]at hc;generalize l.getD k 0=v at*;have t3:(k:Int)<3:=by omega
   by_cases hv:v=0
   ·have HN':=qH (HN.out hv);have bv:(v !=0)=false:=by simpa using hv
    clear hv;go_wp2;go_round;case rel=>exact⟨k+1,by go_num,by omega,HN'.out⟩
    case measure=>simp[intOf];omega
   ·have HV:=qH (HRK.out hv);have bv:(v !=0)=true:=by simpa using hv
    clear hv;go_wp2;go_ret;exact⟨ret_int HV.out.symm,rfl⟩
  ·have HV:=qH (HE.out (fun j hj=>HZ.out j (by omega)));have t3: ¬(k:Int)<3:=by omega
   go_wp2;go_ret;exact⟨ret_int HV.out.symm,rfl⟩
theorem compare_any(w:World)(a b:Ev):Calls Tryz.prog 61 #[a.agg,b.agg] w fun e w'=>e=.returned (.int .i64 (cmpE a b))∧Below w.heap.size w w':=by
 have HC:=qH (show cmpE a b=orI (Lib.compareInt a.at_ b.at_) (Lib.compareBytes a.src b.src) (Lib.compareInt a.num b.num)from rfl);unfold Ev.agg;go_enter Tryz.func61,Tryz.ntmps61;go_wp2;have hbA:Below w.heap.size w ((w.alloc (evObj a)).alloc (evObj b)):=((Below.refl _ _).alloc (Nat.le_refl _) _).alloc (by simp) _;have hb1:Below (w.alloc (evObj a)).heap.size (w.alloc (evObj a)) ((w.alloc (evObj a)).alloc (evObj b)):=(Below.refl _ _).alloc (Nat.le_refl _) _;obtain⟨f0,f1,f2,f3,f4,f5,f6,f7⟩:=(EvIn.new w a).below hb1 (by simp);obtain⟨g0,g1,g2,g3,g4,g5,g6,g7⟩:=EvIn.new (w.alloc (evObj a)) b;have hsA:(w.alloc (evObj a)).heap.size=w.heap.size+1:=by simp
 rw[hsA]at g0 g1 g2 g3 g4 g5 g6 g7;have hs1:((w.alloc (evObj a)).alloc (evObj b)).heap.size=w.heap.size+2:=by simp
 have HS1:=qH hs1;clear hb1 hsA hs1;generalize(w.alloc (evObj a)).alloc (evObj b)=w1 at*;go_still_tail 15,(by kernel_rfl);still_call(Tryz.cmp_Compare_int _ _ _);repeat still_step
 still_call(Tryz.strings_Compare _ _ _);repeat still_step
 still_call(Tryz.cmp_Compare_int _ _ _);repeat still_step
 refine wpStill_nil ?_;change wpList _ _ _ _ _ (w1.drewN 1);have hbq:Below w.heap.size w (w1.drewN 1):=below_drewN hbA 1;have hsq:w.heap.size+2=(w1.drewN 1).heap.size:=by show _=w1.heap.size;rw[HS1.out]
 generalize w1.drewN 1=w2 at*;generalize Lib.compareInt a.at_ b.at_=x at*;generalize Lib.compareBytes a.src b.src=y at*;generalize Lib.compareInt a.num b.num=z at*;have HSQ:=qH hsq;clear hsq;go_wp2_with fail;have key: ∀o,(w2.alloc (.cells #[.int .i64 x,.int .i64 y,.int .i64 z] 3)).cell? ⟨w2.heap.size,o,none⟩=_:=fun o=>cell_of_row _ w2.heap.size o _ _ (0,0) (heap_alloc_new w2 _);refine(or3_any _ w2.heap.size x y z ((key 0).trans rfl) ((key 1).trans rfl) ((key 2).trans rfl)).mono ?_;rintro e w3⟨rfl,rfl⟩;clear key;go_wp2;go_ret;exact⟨ret_int HC.out.symm,hbq.alloc (by have:=HSQ.out;omega) _⟩
end Go.Proofs.YtcmmclliabhnjaaGreatDoor
