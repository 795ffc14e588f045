/-
  What a slice of events that came in reads as, and how long its texts can be.
-/
import Derived.Test.YtajihpcdplpcdaaGreatDoorTSets
import Derived.Test.YtajihpcdplpcdaaGreatDoorTEvForget
import Derived.Test.YtajihpcdplpcdaaGreatDoorTShelf
import Derived.WalkLawsBesides
import Derived.Test.YtajihpcdplpcdaaGreatDoorTWhole
import Derived.ProofKit
import Derived.OpenShut
import Derived.ShutString
import Derived.ChangeOld
import Derived.Deep.Slices
import Derived.SizedLaws
set_option maxRecDepth 100000
set_option maxHeartbeats 16000000
namespace Go.Proofs.YtajihpcdplpcdaaGreatDoor
open Go.RowKit Go.Maps Go.Sort
def Strs(w:World)(B:Nat)(A:Option Addr)(n c:Nat)(ss:List (List UInt8)):Prop:=Cel w B 1 A n c (ss.map encStr)
theorem Strs.len{w:World}{B n c:Nat}{A:Option Addr}{ss:List (List UInt8)}(h:Strs w B A n c ss):ss.length=n:=by have:=Cel.len h;simpa using this
theorem Strs.at_{w:World}{B n c:Nat}{A:Option Addr}{ss:List (List UInt8)}(h:Strs w B A n c ss)(k:Nat)(hk:k<ss.length): ∃b off,A=some ⟨b,off,none⟩∧b<B∧w.cell? ⟨b,off+k,none⟩=some (.string ⟨ss[k].toArray⟩):=by have hl:=h.len;obtain⟨b,off,e,hb,hc⟩:=Cel.cell h (by omega);exact⟨b,off,e,hb,hc k _ (by simp[hk,encStr])⟩
def MaxAt(w:World):Prop:= ∃m,w.cell? ⟨1,0,none⟩=some (.int .i64 m)
theorem MaxAt.lt{w:World}(h:MaxAt w):1<w.heap.size:=by obtain⟨m,h⟩:=h;exact World.block_lt_of_cell? w ⟨1,0,none⟩ h
theorem MaxAt.below{w w':World}{B:Nat}(h:MaxAt w)(hb:Below B w w')(hB:1<B):MaxAt w':=by obtain⟨m,h⟩:=h;exact⟨m,(hb.cell (p:=⟨1,0,none⟩) hB).trans h⟩
theorem MaxAt.up{w w':World}(h:MaxAt w)(hb:Below w.heap.size w w'):MaxAt w':=h.below hb h.lt
def restL(s:List UInt8):List UInt8:=(Lib.cut s [59]).2.1
def tagsL(s:List UInt8):List (List UInt8):=if(restL s).isEmpty then[]else(Lib.splitB ⟨#[44]⟩ 0 (Lib.countB ⟨(restL s).toArray⟩ ⟨#[44]⟩) ⟨(restL s).toArray⟩).map (fun b=>b.data.toList)
theorem restL_length(s:List UInt8):(restL s).length≤s.length:=by
 unfold restL Lib.cut;split;·simp
 ·simp
theorem str_of(b:ByteArray):(⟨b.data.toList.toArray⟩:ByteArray)=b:=by cases b;simp
theorem tags_any(w:World)(s:List UInt8)(hs:s.length≤1000000000)(hm:MaxAt w):Calls Tryz.prog 119 #[.string ⟨s.toArray⟩] w fun e w'=> ∃A c,e=.returned (.slice A (tagsL s).length c)∧Strs w' w'.heap.size A (tagsL s).length c (tagsL s)∧Below w.heap.size w w':=by
 obtain⟨m,hmc⟩:=hm;have HM:=qH hmc;clear hmc;have HR:=qH (show(Lib.cut s [59]).2.1=restL s from rfl);have hrl:=restL_length s;have HT:=qH (show tagsL s=if(restL s).isEmpty then[]else(Lib.splitB ⟨#[44]⟩ 0 (Lib.countB ⟨(restL s).toArray⟩ ⟨#[44]⟩) ⟨(restL s).toArray⟩).map (fun b=>b.data.toList)from rfl);go_enter Tryz.func119,Tryz.ntmps119;go_wp2_with fail;refine(Tryz.strings_Cut ⟨s.toArray⟩ ⟨#[59]⟩ m w (by simp[ByteArray.size];omega) HM.out).mono ?_;rintro q w1⟨rfl,n1,rfl⟩;simp only;rw[HR.out];generalize restL s=rest at*;generalize(Lib.cut s [59]).1=mk at*;generalize(Lib.cut s [59]).2.2=ok at*;cases he:rest.isEmpty
 ·go_wp2_with fail;refine(Tryz.strings_Split ⟨rest.toArray⟩ ⟨#[44]⟩ m (w.drewN n1) (by simp[ByteArray.size];omega) HM.out (by simp[ByteArray.size])).mono ?_;rintro q w2⟨rfl,rfl⟩;have hT:=HT.out;rw[he]at hT;simp only[Bool.false_eq_true,if_false]at hT;have hl:(tagsL s).length=Lib.countB ⟨rest.toArray⟩ ⟨#[44]⟩+1:=by rw[hT,List.length_map];exact(Lib.splitB_all ⟨#[44]⟩ (by simp[ByteArray.size]) 0 _ ⟨rest.toArray⟩ rfl)
  have hE:(Lib.splitB ⟨#[44]⟩ 0 (Lib.countB ⟨rest.toArray⟩ ⟨#[44]⟩) ⟨rest.toArray⟩).map Value.string=(tagsL s).map encStr:=by rw[hT,List.map_map];refine List.map_congr_left fun b _=>?_;show Value.string b=.string ⟨b.data.toList.toArray⟩;rw[str_of]
  have HL:=qH hl;have HE:=qH hE;clear hl hE hT;have hcb:Lib.countB ⟨rest.toArray⟩ ⟨#[44]⟩≤1000000000:=by have:=Lib.countB_le ⟨#[44]⟩ (by simp[ByteArray.size]) _ ⟨rest.toArray⟩ (Nat.le_refl _);simp[ByteArray.size]at this;omega
  go_wp2;go_ret;refine⟨some ⟨w.heap.size,0,none⟩,Lib.countB ⟨rest.toArray⟩ ⟨#[44]⟩+1,by rw[HL.out];rfl,?_,((below_drewN (Below.refl _ _) n1).alloc (by simp) _)⟩;rw[HE.out,←HL.out];have h:=Cel.new (w.drewN n1) ((tagsL s).map encStr).toArray 9 (n:=(tagsL s).length) (size:=1) (by rw[HL.out];unfold maxLen;omega) (by simp);unfold Strs;simpa using h
 ·have hT:=HT.out;rw[he]at hT;simp only[if_true]at hT;have HTE:=qH hT;clear hT;go_wp2;go_ret;exact⟨none,0,by rw[HTE.out];rfl,by rw[HTE.out];exact Cel.nil _ _ _ _ _ (by unfold maxLen;omega),below_drewN (Below.refl _ _) n1⟩
def tagB(ts:List (List UInt8))(j:Nat):Bool:=nameB (ts.getD j [])&&(j==0||Op.bytesLess (ts.getD (j-1) []) (ts.getD j []))
def tagsB(ts:List (List UInt8)):Bool:=(List.range ts.length).all (tagB ts)
def listingB(s:List UInt8):Bool:=(Lib.cut s [59]).2.2&&nameB (Lib.cut s [59]).1&&decide ((tagsL s).length≤8)&&tagsB (tagsL s)
theorem cut1_length(s:List UInt8):(Lib.cut s [59]).1.length≤s.length:=by
 unfold Lib.cut;split;·simp;omega
 ·simp
theorem name_all(w:World)(l:List UInt8):Calls Tryz.prog 33 #[.string ⟨l.toArray⟩] w fun e w'=>e=.returned (.bool (nameB l))∧w=w':=by
 by_cases h:l.length≤1000000000;·exact name_any w l h
 ·have h24:24<l.length:=by omega
  have h0: ¬l.length<1:=by omega
  go_enter Tryz.func33,Tryz.ntmps33;go_wp2;go_ret;rw[nameB_short (.inr h24)];exact⟨rfl,rfl⟩
def ListRel(ts:List (List UInt8))(w2:World)(i:Value)(wr:World):Prop:= ∃k:Nat,i=.int .i64 k∧k≤ts.length∧wr=w2∧Hid (∀j,j<k→tagB ts j=true)
theorem listing_any(w:World)(s:List UInt8)(hs:s.length≤1000000000)(hm:MaxAt w):Calls Tryz.prog 74 #[.string ⟨s.toArray⟩] w (Says (listingB s) w):=by
 have HMA:=qH hm;obtain⟨m,hmc⟩:=hm;have HM:=qH hmc;clear hmc;have HLB:=qH (show listingB s=((Lib.cut s [59]).2.2&&nameB (Lib.cut s [59]).1&&decide ((tagsL s).length≤8)&&tagsB (tagsL s))from rfl);have hcl:=cut1_length s;go_enter Tryz.func74,Tryz.ntmps74;go_wp2_with fail;refine(Tryz.strings_Cut ⟨s.toArray⟩ ⟨#[59]⟩ m w (by simp[ByteArray.size];omega) HM.out).mono ?_;rintro q w1⟨rfl,n1,rfl⟩;simp only;have hb1:Below w.heap.size w (w.drewN n1):=below_drewN (Below.refl _ _) n1;generalize(Lib.cut s [59]).1=mk at*;generalize(Lib.cut s [59]).2.1=rs at*;generalize(Lib.cut s [59]).2.2=ok at*;have HM1:=qH (HMA.out.up hb1);generalize w.drewN n1=w1 at*;cases ok;·go_wp2;go_ret;exact⟨ret_bool (by rw[HLB.out];rfl),hb1⟩
 go_wp2_with fail;refine(name_any w1 mk (by omega)).mono ?_;rintro q w2⟨rfl,rfl⟩;generalize nameB mk=nm at*;cases nm;·go_wp2;go_ret;exact⟨ret_bool (by rw[HLB.out];rfl),hb1⟩
 go_wp2_with fail;refine(tags_any w1 s hs HM1.out).mono ?_;rintro q w2⟨A,c,rfl,hst,hb2⟩;have hbw2:Below w.heap.size w w2:=hb1.trans (hb2.mono hb1.size);have HS:=qH hst;clear hst;generalize tagsL s=ts at*;by_cases h8:8<ts.length
 ·have t8:(8:Int)<ts.length:=by omega
  have HF:=qH (show listingB s=false by rw[HLB.out,decide_eq_false (show¬ts.length≤8 by omega)];simp);go_wp2;go_ret;exact⟨ret_bool HF.out.symm,hbw2⟩
 have HG:=qH (show listingB s=tagsB ts by rw[HLB.out,decide_eq_true (show ts.length≤8 by omega)];simp);clear HLB;go_wp2;go_loopw[29](fun i wr=>ListRel ts w2 i wr)(fun i _=>ts.length-(intOf i).toNat);case atStart=>exact⟨0,rfl,Nat.zero_le _,rfl,fun j h=>by omega⟩
 case round=>
  obtain⟨k,rfl,hk,rfl,HK⟩:=hrel;by_cases hkn:k<ts.length
  ·obtain⟨b,off,rfl,hb,hc⟩:=HS.out.at_ k hkn;have HB:=qH (show tagB ts k=(nameB ts[k]&&(k==0||Op.bytesLess (ts.getD (k-1) []) ts[k]))by unfold tagB;simp[List.getD,List.getElem?_eq_getElem hkn]);have HNO:=qH (show tagB ts k=false→tagsB ts=false from fun h=>by unfold tagsB;rw[List.all_eq_false];exact⟨k,by simpa using hkn,by simp[h]⟩);have HYES:=qH (show tagB ts k=true→ ∀j,j<k+1→tagB ts j=true from fun h j hj=>by
    by_cases e:j=k;·subst e;exact h
    ·exact HK.out j (by omega));have hts:ts.length≤8:=by omega
   have HC1:=qH (show 0<k→wr.cell? ⟨b,off+(k-1),none⟩=some (.string ⟨(ts.getD (k-1) []).toArray⟩)from fun h0=>by obtain⟨b',off',e',_,hc'⟩:=HS.out.at_ (k-1) (by omega);injection e' with e';injection e' with e1 e2;subst e1 e2;rw[hc'];simp[List.getD,List.getElem?_eq_getElem (show k-1<ts.length by omega)]);generalize ts.getD (k-1) []=q at*;have t1:(k:Int)<ts.length:=by omega
   generalize ts[k]=t at*;go_wp2_with fail;refine(name_all wr t).mono ?_;rintro e w3⟨rfl,rfl⟩;generalize nameB t=nt at*;cases nt;·have HF:=qH (HNO.out (by rw[HB.out];rfl));go_wp2;go_ret;exact⟨ret_bool (by rw[HG.out,HF.out]),hbw2⟩
   by_cases k0:k=0
   ·subst k0;have HY:=qH (HYES.out (by rw[HB.out];rfl));go_wp2;go_roundw;case rel=>exact⟨1,by go_num,by omega,rfl,HY.out⟩
    case measure=>simp[intOf];omega
   ·have hc1:=HC1.out (by omega);have k1:(0:Int)<k:=by omega
    have ek:(k:Int)-1=((k-1:Nat):Int):=by omega
    have HBL:=qH (show tagB ts k=Op.bytesLess q t by rw[HB.out];simp[k0]);cases hbl:Op.bytesLess q t;·have HF:=qH (HNO.out (HBL.out.trans hbl));go_wp2;go_ret;exact⟨ret_bool (by rw[HG.out,HF.out]),hbw2⟩
    ·have HY:=qH (HYES.out (HBL.out.trans hbl));go_wp2;go_roundw;case rel=>exact⟨k+1,by go_num,by omega,rfl,HY.out⟩
     case measure=>simp[intOf];omega
  ·have HT:=qH (show tagsB ts=true by
    unfold tagsB;rw[List.all_eq_true];intro j hj;exact HK.out j (by
     have:j<ts.length:=by simpa using hj
     omega));go_wp2;go_ret;exact⟨ret_bool (by rw[HG.out,HT.out]),hbw2⟩
def tailB(e:Ev):Bool:=if e.kind=0 then nameB e.per&&nameB e.item&&(e.val==0)&&e.text.isEmpty else if e.kind=1 then nameB e.per&&nameB e.item&&(e.val==0)&&e.text.isEmpty else if e.kind=2 then nameB e.per&&nameB e.item&&(e.val==0)&&e.text.isEmpty else if e.kind=3 then nameB e.per&&nameB e.item&&(e.val==0)&&e.text.isEmpty else if e.kind=4 then nameB e.per&&nameB e.item&&decide (1≤e.val)&&decide (e.val≤5)&&e.text.isEmpty else if e.kind=5 then nameB e.per&&nameB e.item&&(e.val==0)&&e.text.isEmpty else if e.kind=6 then nameB e.per&&nameB e.item&&(e.val==0)&&e.text.isEmpty else if e.kind=7 then nameB e.per&&e.item.isEmpty&&(e.val==0)&&nameB e.text else if e.kind=8 then nameB e.per&&e.item.isEmpty&&(e.val==0)&&nameB e.text else if e.kind=9 then nameB e.per&&e.item.isEmpty&&(e.val==0)&&nameB e.text else if e.kind=10 then nameB e.per&&e.item.isEmpty&&(e.val==0)&&nameB e.text else if e.kind=11 then e.per.isEmpty&&nameB e.item&&decide (0≤e.val)&&decide (e.val≤1048576)&&listingB e.text else if e.kind=12 then e.per.isEmpty&&nameB e.item&&decide (0≤e.val)&&decide (e.val≤1048576)&&e.text.isEmpty else if e.kind=13 then e.per.isEmpty&&nameB e.item&&(e.val==0)&&e.text.isEmpty else if e.kind=14 then nameB e.per&&e.item.isEmpty&&(e.val==0)&&e.text.isEmpty else false
def mayB(e:Ev):Bool:=headB e&&tailB e
theorem nameq'(w:World)(l:List UInt8):Calls Tryz.prog 33 #[.string ⟨l.toArray⟩] w fun e w'=>e=.returned (.bool (nameB l))∧w'=w:=(name_all w l).mono fun _ _ h=>⟨h.1,h.2.symm⟩
theorem may_tail(w:World)(e:Ev)(hs:e.small)(hmx:MaxAt w)(hh:headB e=true)(hnf:e.kind≠14):Calls Tryz.prog 41 #[e.agg] w (Says (tailB e) w):=by
 obtain⟨s1,s2,s3,s4⟩:=hs;have HMX:=qH hmx;clear hmx;generalize htb:tailB e=tb;have HTB:=qH htb;clear htb;have hh':(nameB e.src&&decide (1≤e.num)&&decide (e.num≤1099511627776)&&decide (0≤e.at_)&&decide (e.at_≤1099511627776))=true:=hh;simp only[Bool.and_eq_true,decide_eq_true_eq]at hh';obtain⟨⟨⟨⟨hns,h1⟩,h2⟩,h3⟩,h4⟩:=hh';have HNS:=qH hns;clear hns hh;have d1:decide (e.num<1)=false:=decide_eq_false (by omega);have d2:decide (1099511627776<e.num)=false:=decide_eq_false (by omega);have d3:decide (e.at_<0)=false:=decide_eq_false (by omega);have d4:decide (1099511627776<e.at_)=false:=decide_eq_false (by omega);unfold Ev.agg;go_enter Tryz.func41,Tryz.ntmps41;go_wp2_with fail;refine(name_all _ e.src).mono ?_;rintro r w1⟨rfl,rfl⟩;rw[HNS.out];have hb:Below w.heap.size w (w.alloc (evObj e)):=(Below.refl _ _).alloc (Nat.le_refl _) _;obtain⟨f0,f1,f2,f3,f4,f5,f6,f7⟩:=EvIn.new w e;generalize w.alloc (evObj e)=w1 at*;generalize hke:e.kind=kd at*;have HKE:=qH hke;clear hke;go_wp2;clear d1 d2 d3 d4;go_quiet((go_at_call 33;exact Calls.quiet_of_same (nameq' _ _)));have hbq:Below w.heap.size w (w1.drewN nq):=below_drewN hb nq;by_cases hx:kd<0∨14<kd;·have HT:=qH (show tb=false by rw[←HTB.out];unfold tailB;rw[HKE.out];rw[if_neg (by omega),if_neg (by omega),if_neg (by omega),if_neg (by omega),if_neg (by omega),if_neg (by omega),if_neg (by omega),if_neg (by omega),if_neg (by omega),if_neg (by omega),if_neg (by omega),if_neg (by omega),if_neg (by omega),if_neg (by omega),if_neg (by omega)]);have hq: ∀j:Int,0≤j→j≤14→(kd==j)=false:=fun j _ _=>beq_eq_false_iff_ne.2 (by omega);have k0:=hq 0 (by decide) (by decide);have k1:=hq 1 (by decide) (by decide);have k2:=hq 2 (by decide) (by decide);have k3:=hq 3 (by decide) (by decide);have k4:=hq 4 (by decide) (by decide);have k5:=hq 5 (by decide) (by decide);have k6:=hq 6 (by decide) (by decide);have k7:=hq 7 (by decide) (by decide);have k8:=hq 8 (by decide) (by decide);have k9:=hq 9 (by decide) (by decide);have k10:=hq 10 (by decide) (by decide);have k11:=hq 11 (by decide) (by decide);have k12:=hq 12 (by decide) (by decide);have k13:=hq 13 (by decide) (by decide);have k14:=hq 14 (by decide) (by decide);clear hq hx;generalize nameB e.per=np at*;generalize nameB e.item=ni at*;go_wp2;go_ret;exact⟨ret_bool HT.out.symm,hbq⟩
 rcases(show(kd=0∨kd=1∨kd=2∨kd=3∨kd=5∨kd=6)∨(kd=4)∨(kd=7∨kd=8∨kd=9∨kd=10)∨(kd=11)∨(kd=12)∨(kd=13)by omega)with hk|hk|hk|hk|hk|hk
 ·have HT:=qH (show tb=(nameB e.per&&nameB e.item&&(e.val==0)&&e.text.isEmpty)by rw[←HTB.out];unfold tailB;rw[HKE.out];rcases hk with rfl|rfl|rfl|rfl|rfl|rfl<;>rfl);clear hx;rcases hk with rfl|rfl|rfl|rfl|rfl|rfl;all_goals
   generalize nameB e.per=np at*;generalize nameB e.item=ni at*;cases np;·go_wp2;go_ret;exact⟨ret_bool (by rw[HT.out];first|rfl|simp),hbq⟩
   cases ni;·go_wp2;go_ret;exact⟨ret_bool (by rw[HT.out];first|rfl|simp),hbq⟩
   cases zv0:(e.val==0);·go_wp2;go_ret;exact⟨ret_bool (by rw[HT.out];rw[zv0];rfl),hbq⟩
   go_wp2;go_ret;exact⟨ret_bool (by rw[HT.out];rw[zv0];first|rfl|simp),hbq⟩
 ·have HT:=qH (show tb=(nameB e.per&&nameB e.item&&decide (1≤e.val)&&decide (e.val≤5)&&e.text.isEmpty)by rw[←HTB.out];unfold tailB;rw[HKE.out];rw[hk];rfl);subst hk;clear hx;generalize nameB e.per=np at*;generalize nameB e.item=ni at*;cases np;·go_wp2;go_ret;exact⟨ret_bool (by rw[HT.out];first|rfl|simp),hbq⟩
  cases ni;·go_wp2;go_ret;exact⟨ret_bool (by rw[HT.out];first|rfl|simp),hbq⟩
  cases zv1:decide (1≤e.val);·go_wp2;go_ret;exact⟨ret_bool (by rw[HT.out];rw[zv1];rfl),hbq⟩
  cases zv5:decide (e.val≤5);·go_wp2;go_ret;exact⟨ret_bool (by rw[HT.out];rw[zv1];rw[zv5];rfl),hbq⟩
  go_wp2;go_ret;exact⟨ret_bool (by rw[HT.out];rw[zv1];rw[zv5];first|rfl|simp),hbq⟩
 ·have HT:=qH (show tb=(nameB e.per&&e.item.isEmpty&&(e.val==0)&&nameB e.text)by rw[←HTB.out];unfold tailB;rw[HKE.out];rcases hk with rfl|rfl|rfl|rfl<;>rfl);clear hx;rcases hk with rfl|rfl|rfl|rfl;all_goals
   generalize nameB e.per=np at*;generalize nameB e.item=ni at*;cases np;·go_wp2;go_ret;exact⟨ret_bool (by rw[HT.out];first|rfl|simp),hbq⟩
   cases zie:e.item.isEmpty;·go_wp2;go_ret;exact⟨ret_bool (by rw[HT.out];rw[zie];rfl),hbq⟩
   cases zv0:(e.val==0);·go_wp2;go_ret;exact⟨ret_bool (by rw[HT.out];rw[zie];rw[zv0];rfl),hbq⟩
   go_wp2_with fail;refine(name_all _ e.text).mono ?_;rintro r w2⟨rfl,rfl⟩;generalize nameB e.text=nt at*;go_wp2;go_ret;exact⟨ret_bool (by rw[HT.out];rw[zie];rw[zv0];rfl),hbq⟩
 ·have HT:=qH (show tb=(e.per.isEmpty&&nameB e.item&&decide (0≤e.val)&&decide (e.val≤1048576)&&listingB e.text)by rw[←HTB.out];unfold tailB;rw[HKE.out];rw[hk];rfl);subst hk;clear hx;generalize nameB e.per=np at*;generalize nameB e.item=ni at*;cases zpe:e.per.isEmpty;·go_wp2;go_ret;exact⟨ret_bool (by rw[HT.out];rw[zpe];rfl),hbq⟩
  cases ni;·go_wp2;go_ret;exact⟨ret_bool (by rw[HT.out];rw[zpe];first|rfl|simp),hbq⟩
  cases zv0l:decide (0≤e.val);·go_wp2;go_ret;exact⟨ret_bool (by rw[HT.out];rw[zpe];rw[zv0l];rfl),hbq⟩
  cases zv20:decide (e.val≤1048576);·go_wp2;go_ret;exact⟨ret_bool (by rw[HT.out];rw[zpe];rw[zv0l];rw[zv20];rfl),hbq⟩
  have HMQ:=qH (show MaxAt (w1.drewN nq)from HMX.out.up hbq);go_wp2_with fail;refine(listing_any (w1.drewN nq) e.text s4 HMQ.out).mono ?_;rintro r w3⟨rfl,hb3⟩;have hbz:Below w.heap.size w w3:=hbq.trans (hb3.mono hbq.size);generalize listingB e.text=li at*;go_wp2;go_ret;exact⟨ret_bool (by rw[HT.out];rw[zpe];rw[zv0l];rw[zv20];rfl),hbz⟩
 ·have HT:=qH (show tb=(e.per.isEmpty&&nameB e.item&&decide (0≤e.val)&&decide (e.val≤1048576)&&e.text.isEmpty)by rw[←HTB.out];unfold tailB;rw[HKE.out];rw[hk];rfl);subst hk;clear hx;generalize nameB e.per=np at*;generalize nameB e.item=ni at*;cases zpe:e.per.isEmpty;·go_wp2;go_ret;exact⟨ret_bool (by rw[HT.out];rw[zpe];rfl),hbq⟩
  cases ni;·go_wp2;go_ret;exact⟨ret_bool (by rw[HT.out];rw[zpe];first|rfl|simp),hbq⟩
  cases zv0l:decide (0≤e.val);·go_wp2;go_ret;exact⟨ret_bool (by rw[HT.out];rw[zpe];rw[zv0l];rfl),hbq⟩
  cases zv20:decide (e.val≤1048576);·go_wp2;go_ret;exact⟨ret_bool (by rw[HT.out];rw[zpe];rw[zv0l];rw[zv20];rfl),hbq⟩
  go_wp2;go_ret;exact⟨ret_bool (by rw[HT.out];rw[zpe];rw[zv0l];rw[zv20];first|rfl|simp),hbq⟩
 ·have HT:=qH (show tb=(e.per.isEmpty&&nameB e.item&&(e.val==0)&&e.text.isEmpty)by rw[←HTB.out];unfold tailB;rw[HKE.out];rw[hk];rfl);subst hk;clear hx;generalize nameB e.per=np at*;generalize nameB e.item=ni at*;cases zpe:e.per.isEmpty;·go_wp2;go_ret;exact⟨ret_bool (by rw[HT.out];rw[zpe];rfl),hbq⟩
  cases ni;·go_wp2;go_ret;exact⟨ret_bool (by rw[HT.out];rw[zpe];first|rfl|simp),hbq⟩
  cases zv0:(e.val==0);·go_wp2;go_ret;exact⟨ret_bool (by rw[HT.out];rw[zpe];rw[zv0];rfl),hbq⟩
  go_wp2;go_ret;exact⟨ret_bool (by rw[HT.out];rw[zpe];rw[zv0];first|rfl|simp),hbq⟩
theorem may_any(w:World)(e:Ev)(hs:e.small)(hmx:MaxAt w):Calls Tryz.prog 41 #[e.agg] w (Says (mayB e) w):=by
 unfold mayB;cases hh:headB e;·exact may_head w e hs hh
 rw[Bool.true_and];by_cases hk:e.kind=14
 ·have hq:tailB e=(nameB e.per&&e.item.isEmpty&&(e.val==0)&&e.text.isEmpty):=by unfold tailB;rw[hk];rfl
  rw[hq];exact may_forget w e hs hh hk
 ·exact may_tail w e hs hmx hh hk
open Go.ChangeShapes Go.WideShapes Go.ChangeAt
theorem own:ownKnob Tryz.prog.godebug=none:=by kernel_rfl
theorem laidOut:laidOutB Tryz.prog=true:=by kernel_rfl
theorem byt_of_trod{H:Type}{enc:TypeId×Value→H}{W:World}{T E:TypeId}(hT:Tryz.prog.underlying T=some (.slice E))(hE:Tryz.prog.underlying E=some (.int .u8))(hc:Tryz.prog.cellsOf E=1){A:Option Addr}{n c:Nat}{x:DataW H×List MemPlace}(h: ∃fuel,DataW.trod enc Tryz.prog W 0 (fun _=>true) true fuel T (Value.slice A n c).cells.toList=some x): ∃l,Byt W W.heap.size A n c l:=by
 obtain⟨fuel,hf⟩:=h;rcases open_ints hT hE hc hf with⟨hcs,_⟩|⟨x,l,c',zs,hcs,_,hl,hm,hz,_,hcell,hwz⟩;·simp[Value.cells]at hcs;obtain⟨rfl,rfl,rfl⟩:=hcs;exact⟨[],Byt.nil _ _ _ _ (by unfold maxLen;omega)⟩
 ·simp[Value.cells]at hcs;obtain⟨rfl,rfl,rfl⟩:=hcs;have hz':zs.length=c:=by simpa using hz
  have hw8: ∀i,0≤zs.getD i 0∧zs.getD i 0<256:=fun i=>by
   by_cases hi:i<zs.length
   ·have:=hwz (zs[i]) (List.getElem_mem hi);have e:zs.getD i 0=zs[i]:=by simp[List.getD,hi]
    rw[e];have hb:=this;simp[Lit.wf,IntKind.min,IntKind.max,IntKind.signed,IntKind.bits]at hb;omega
   ·have e:zs.getD i 0=0:=by simp[List.getD,List.getElem?_eq_none (Nat.le_of_not_lt hi)]
    rw[e];decide
  refine⟨(zs.take n).map fun z=>UInt8.ofNat z.toNat,by simp;omega,hl,hm,fun h0=>?_⟩;obtain⟨b,off,spot⟩:=x;have hc0:=hcell 0 (by omega);have hspot:spot=none:=by simpa[Addr.add]using World.cell?_spot hc0
  subst hspot;refine⟨b,off,rfl,World.block_lt_of_cell? W ⟨b,off,none⟩ (by simpa[Addr.add]using hc0),fun i hi=>?_⟩;have hi':i<n:=by simp at hi;omega
  have:=hcell i (by omega);have hadd:(⟨b,off,none⟩:Addr).add i=⟨b,off+i,none⟩:=by unfold Addr.add;split<;>simp_all
  rw[hadd]at this;rw[this];have h8:=hw8 i;have e:zs.getD i 0=zs[i]'(by omega):=by simp[List.getD,List.getElem?_eq_getElem (show i<zs.length by omega)]
  rw[e]at h8⊢;simp;omega
instance:Inhabited Ev:=⟨⟨[],0,0,0,[],[],0,[]⟩⟩
end Go.Proofs.YtajihpcdplpcdaaGreatDoor
