/-
  Layer 7: Decode.
-/
import Derived.Test.YtbejfgmdkmddnaaGreatDoorPSets
import Derived.Test.YtbejfgmdkmddnaaGreatDoorPOfStay
import Derived.Test.YtbejfgmdkmddnaaGreatDoorPEvMay
import Derived.Test.YtbejfgmdkmddnaaGreatDoorPRTxt2
import Derived.Test.YtbejfgmdkmddnaaGreatDoorPRowK
import Derived.Test.YtbejfgmdkmddnaaGreatDoorPPtClk
import Derived.Test.YtbejfgmdkmddnaaGreatDoorPItk
import Derived.WalkLawsBesides
set_option maxRecDepth 100000
set_option maxHeartbeats 16000000
namespace Go.Proofs.YtbejfgmdkmddnaaGreatDoor
open Go.RowKit
theorem or_shift(a m i:Nat)(h:a<2^i):a|||m*2^i=a+m*2^i:=by have:=Nat.shiftLeft_add_eq_or_of_lt h m;rw[Nat.shiftLeft_eq]at this;rw[Nat.or_comm,←this,Nat.add_comm]
theorem and127b(x:Nat)(h:x<256):bits .and .u8 (x:Int) 127=((x%128:Nat):Int):=by
 show IntKind.u8.wrap ((BitVec.ofInt 8 (x:Int)&&&BitVec.ofInt 8 ((127:Nat):Int)).toNat:Int)=_;have e:(BitVec.ofInt 8 (x:Int)&&&BitVec.ofInt 8 ((127:Nat):Int)).toNat=x%128:=by rw[BitVec.toNat_and,BitVec.ofInt_natCast,BitVec.ofInt_natCast,BitVec.toNat_ofNat,BitVec.toNat_ofNat,Nat.mod_eq_of_lt (by omega:x<2^8)];exact Nat.and_two_pow_sub_one_eq_mod x 7
 rw[e];simp[IntKind.wrap,IntKind.bits,IntKind.signed];omega
open Go.Maps Go.Sort
def NrPost(w:World)(B:Nat)(l:List UInt8)(e:Ending)(w':World):Prop:=(match numR l with|.ok v r=> ∃A n c,e=.returned (.tuple #[.int .i64 v,.slice A n c,.int .i64 0])∧Byt w B A n c r|.torn=>e=.returned (.tuple #[.int .i64 0,.slice none 0 0,.int .i64 3])|.form=>e=.returned (.tuple #[.int .i64 0,.slice none 0 0,.int .i64 2]))∧ ∃q,w'=w.drewN q
def NumRel(w:World)(l:List UInt8)(acc i:Value)(W:World):Prop:= ∃q a:Nat,i=.int .i64 q∧q≤6∧acc=.int .i64 a∧a<128^q∧numD (6-q) q a (l.drop q)=numR l∧W=w
theorem Byt.tail{w:World}{B n c b off:Nat}{l:List UInt8}(h:Byt w B (some ⟨b,off,none⟩) n c l)(k:Nat)(hk:k≤n):Byt w B (if c=k then some ⟨b,off,none⟩else some ⟨b,off+k,none⟩) (n-k) (c-k) (l.drop k):=by
 have hcut:=h.cut k (n-k) (by omega);have hl:=h.len;have:(l.drop k).take (n-k)=l.drop k:=List.take_of_length_le (by simp;omega);rw[this]at hcut;split
 ·rename_i hc;have hcap:=h.cap;have:n-k=0:=by omega
  have h0:l.drop k=[]:=List.drop_of_length_le (by omega);rw[this,h0];exact Byt.nil w B _ _ (by have:=h.max;omega)
 ·exact hcut
theorem numb_any(w:World)(B:Nat)(A:Option Addr)(n k:Nat)(l:List UInt8)(h:Byt w B A n k l)(hn:n≤1000000000):Calls Tryz.prog 119 #[.slice A n k] w (NrPost w B l):=by
 have HB:=qH h;have hlen:=h.len;have hcap:=h.cap;have hmax:=h.max;unfold maxLen at hmax;have HST:=qH (show NumRel w l (.int .i64 0) (.int .i64 0) w from⟨0,0,rfl,by omega,rfl,by simp,rfl,rfl⟩);have HTN:=qH (show∀W q,numR l=.torn→W=w.drewN q→NrPost w B l (.returned (.tuple #[.int .i64 0,.slice none 0 0,.int .i64 3])) W from fun W q h1 h2=>by unfold NrPost;rw[h1];exact⟨rfl,q,h2⟩);have HFM:=qH (show∀W q,numR l=.form→W=w.drewN q→NrPost w B l (.returned (.tuple #[.int .i64 0,.slice none 0 0,.int .i64 2])) W from fun W q h1 h2=>by unfold NrPost;rw[h1];exact⟨rfl,q,h2⟩);have HOK:=qH (show∀W q(v:Nat)(z:Int)r A n c,z=v→numR l=.ok v r→Byt w B A n c r→W=w.drewN q→NrPost w B l (.returned (.tuple #[.int .i64 z,.slice A n c,.int .i64 0])) W from fun W q v z r A n c h0 h1 h2 h3=>by subst h0;unfold NrPost;rw[h1];exact⟨⟨_,_,_,rfl,h2⟩,q,h3⟩);have HLEN:=qH hlen;clear h hlen;go_enter Tryz.func119,Tryz.ntmps119;go_wp2;go_loopw[5,6,7,8](fun acc _ _ i W=>NumRel w l acc i W)(fun _ _ _ i _=>6-(intOf i).toNat);case atStart=>exact HST.out
 case round=>
  obtain⟨q,a,rfl,hq,rfl,ha,hR,hW⟩:=hrel;subst hW;by_cases hq6:q<6
  ·by_cases hql:q<n
   ·obtain⟨b,off,rfl,hb,hc⟩:=HB.out.cell (by omega);have hqL:q<l.length:=by rw[HLEN.out];exact hql
    have hcq:=hc q hqL;have hbyt:=HB.out.tail (q+1) (by omega);have HT:=qH hbyt;have hdr:l.drop q=l[q]::l.drop (q+1):=List.drop_eq_getElem_cons hqL;obtain⟨f,hf⟩: ∃f,6-q=f+1:=⟨5-q,by omega⟩;rw[hdr,hf]at hR;simp only[numD]at hR;have hx256:=(l[q]).toNat_lt;generalize l[q].toNat=x at*;have HA:=qH (and127b x hx256);have hp7:128^q=2^(7*q):=by rw[Nat.pow_mul]
    have HOR:=qH (show∀m:Nat,m<128→bits .or .i64 (a:Int) ((m*128^q:Nat):Int)=((a+m*128^q:Nat):Int)from fun m hm=>by have h1:m*128^q≤128*128^5:=Nat.mul_le_mul (by omega) (Nat.pow_le_pow_right (by omega) (by omega));have h2:128^q≤128^5:=Nat.pow_le_pow_right (by omega) (by omega);rw[i64_or_nat _ _ (by omega) (by omega)];rw[hp7]at ha⊢;rw[or_shift _ _ _ ha]);clear hdr hc hbyt hp7;by_cases hz:x=0∧0<q
    ·rw[if_pos hz]at hR;obtain⟨rfl,hq0⟩:=hz;have HF:=qH (HFM.out wr 0 hR.symm rfl);have t1:(0:Int)<q:=by omega
     clear hR HST HT HA HOR ha;go_wp2;go_ret3;exact HF.out
    ·rw[if_neg hz]at hR;by_cases hlo:x<128
     ·rw[if_pos hlo]at hR;have HR:=qH hR.symm;have HO:=qH (HOR.out x hlo);rw[Nat.mod_eq_of_lt hlo]at HA;have hw: ∀z:Nat,z<4611686018427387904→wrap64 (z:Int)=z:=fun z hz=>by unfold wrap64;omega
      have HW:=qH hw;have hp5:a+x*128^q<4611686018427387904:=by have h1:x*128^q≤128*128^5:=Nat.mul_le_mul (by omega) (Nat.pow_le_pow_right (by omega) (by omega));have h2:128^q≤128^5:=Nat.pow_le_pow_right (by omega) (by omega);omega
      have HP5:=qH hp5;have hqs:q=0∨q=1∨q=2∨q=3∨q=4∨q=5:=by omega
      have hzq:x=0→q=0:=fun h=>by omega
      clear hR HOR HST hz hw hp5;rcases Classical.em (k=q+1)with hk|hk;all_goals
       first|rw[if_pos hk,show k-(q+1)=0 by omega]at HT|rw[if_neg hk]at HT
       rcases hqs with rfl|rfl|rfl|rfl|rfl|rfl
      all_goals
       simp only[Nat.reducePow,Nat.reduceAdd,Nat.add_zero,Nat.mul_one,Nat.zero_add]at ha HO HT HP5 HR hcq hk;by_cases hx0:x=0
       ·first|exact absurd (hzq hx0) (by decide)|
         (subst hx0;go_wp2;go_quiet(fail);go_wp2;go_ret3;refine HOK.out _ _ _ _ _ _ _ _ ?_ HR.out HT.out rfl;have HA0:=HA.out;have HO0:=HO.out;have hw0:wrap64 0=0:=by unfold wrap64;omega
          simp only[Int.natCast_zero,Nat.add_zero]at HA0 HO0⊢;show bits BinOp.or IntKind.i64 (a:Int) (wrap64 (wrap64 (bits BinOp.and IntKind.u8 0 127)))=_;rw[HA0,hw0,hw0];exact HO0)
       ·have t2:((x:Int)==0)=false:=by simp;omega
        have t3:(x:Int)<128:=by omega
        go_wp2;go_quiet(fail);go_wp2;go_ret3;refine HOK.out _ _ _ _ _ _ _ _ ?_ HR.out HT.out rfl;first|(show bits BinOp.or IntKind.i64 (a:Int) (wrap64 (wrap64 (bits BinOp.and IntKind.u8 (x:Int) 127)))=_;rw[HA.out,HW.out x (by omega),HW.out x (by omega)];exact HO.out)|(show bits BinOp.or IntKind.i64 (a:Int) (wrap64 (wrap64 (bits BinOp.and IntKind.u8 (x:Int) 127)*128))=_;rw[HA.out,HW.out x (by omega),show((x:Int)*128)=((x*128:Nat):Int)by omega,HW.out _ (by omega)];exact HO.out)|(show bits BinOp.or IntKind.i64 (a:Int) (wrap64 (wrap64 (bits BinOp.and IntKind.u8 (x:Int) 127)*16384))=_;rw[HA.out,HW.out x (by omega),show((x:Int)*16384)=((x*16384:Nat):Int)by omega,HW.out _ (by omega)];exact HO.out)|(show bits BinOp.or IntKind.i64 (a:Int) (wrap64 (wrap64 (bits BinOp.and IntKind.u8 (x:Int) 127)*2097152))=_;rw[HA.out,HW.out x (by omega),show((x:Int)*2097152)=((x*2097152:Nat):Int)by omega,HW.out _ (by omega)];exact HO.out)|(show bits BinOp.or IntKind.i64 (a:Int) (wrap64 (wrap64 (bits BinOp.and IntKind.u8 (x:Int) 127)*268435456))=_;rw[HA.out,HW.out x (by omega),show((x:Int)*268435456)=((x*268435456:Nat):Int)by omega,HW.out _ (by omega)];exact HO.out)|(show bits BinOp.or IntKind.i64 (a:Int) (wrap64 (wrap64 (bits BinOp.and IntKind.u8 (x:Int) 127)*34359738368))=_;rw[HA.out,HW.out x (by omega),show((x:Int)*34359738368)=((x*34359738368:Nat):Int)by omega,HW.out _ (by omega)];exact HO.out)
     ·rw[if_neg hlo]at hR;have HO:=qH (HOR.out (x%128) (Nat.mod_lt _ (by omega)));have hlt:x%128<128:=Nat.mod_lt _ (by omega);have hf2:6-(q+1)=f:=by omega
      have hb2:a+x%128*128^q<128^(q+1):=by rw[Nat.pow_succ];have:x%128*128^q≤127*128^q:=Nat.mul_le_mul_right _ (by omega);omega
      have HREL:=qH (show∀z:Int,z=((a+x%128*128^q:Nat):Int)→NumRel wr l (.int .i64 z) (.int .i64 ((q:Int)+1)) wr from fun z hz=>⟨q+1,_,rfl,by omega,by rw[hz],hb2,by rw[hf2];exact hR,rfl⟩);have HW:=qH (show∀z:Nat,z<4611686018427387904→wrap64 (z:Int)=z from fun z hz=>by unfold wrap64;omega);have hqs:q=0∨q=1∨q=2∨q=3∨q=4∨q=5:=by omega
      clear hR HOR HST hz hf2 hb2 HT hf;generalize hm:x%128=m at*;have HMM:=qH hm;clear hm;have t2:((x:Int)==0)=false:=by simp;omega
      have t3: ¬(x:Int)<128:=by omega
      rcases hqs with rfl|rfl|rfl|rfl|rfl|rfl;all_goals simp only[Nat.reducePow,Nat.add_zero,Nat.mul_one]at ha HO hcq HREL;go_wp2;refine⟨HREL.out _ ?_,by simp[intOf]⟩;first|(show bits BinOp.or IntKind.i64 (a:Int) (wrap64 (wrap64 (bits BinOp.and IntKind.u8 (x:Int) 127)))=_;rw[HA.out,HW.out m (by omega),HW.out m (by omega)];exact HO.out)|(show bits BinOp.or IntKind.i64 (a:Int) (wrap64 (wrap64 (bits BinOp.and IntKind.u8 (x:Int) 127)*128))=_;rw[HA.out,HW.out m (by omega),show((m:Int)*128)=((m*128:Nat):Int)by omega,HW.out _ (by omega)];exact HO.out)|(show bits BinOp.or IntKind.i64 (a:Int) (wrap64 (wrap64 (bits BinOp.and IntKind.u8 (x:Int) 127)*16384))=_;rw[HA.out,HW.out m (by omega),show((m:Int)*16384)=((m*16384:Nat):Int)by omega,HW.out _ (by omega)];exact HO.out)|(show bits BinOp.or IntKind.i64 (a:Int) (wrap64 (wrap64 (bits BinOp.and IntKind.u8 (x:Int) 127)*2097152))=_;rw[HA.out,HW.out m (by omega),show((m:Int)*2097152)=((m*2097152:Nat):Int)by omega,HW.out _ (by omega)];exact HO.out)|(show bits BinOp.or IntKind.i64 (a:Int) (wrap64 (wrap64 (bits BinOp.and IntKind.u8 (x:Int) 127)*268435456))=_;rw[HA.out,HW.out m (by omega),show((m:Int)*268435456)=((m*268435456:Nat):Int)by omega,HW.out _ (by omega)];exact HO.out)|(show bits BinOp.or IntKind.i64 (a:Int) (wrap64 (wrap64 (bits BinOp.and IntKind.u8 (x:Int) 127)*34359738368))=_;rw[HA.out,HW.out m (by omega),show((m:Int)*34359738368)=((m*34359738368:Nat):Int)by omega,HW.out _ (by omega)];exact HO.out)
   ·have hqn:q≥l.length:=by rw[HLEN.out];omega
    rw[List.drop_of_length_le hqn]at hR;obtain⟨f,hf⟩: ∃f,6-q=f+1:=⟨5-q,by omega⟩;rw[hf]at hR;simp only[numD]at hR;have HF:=qH (HTN.out wr 0 hR.symm rfl);have t1:(n:Int)≤q:=by omega
    clear hR HST ha hf;go_wp2;go_ret3;exact HF.out
  ·have hq6':q=6:=by omega
   subst hq6';simp only[numD,Nat.sub_self]at hR;have HF:=qH (HFM.out wr 0 hR.symm rfl);clear hR HST ha;go_wp2;go_ret3;exact HF.out
def SrcRPost(w:World)(B:Nat)(l:List UInt8)(e:Ending)(w':World):Prop:=(match srcR l with|.ok s r=> ∃A n c,e=.returned (.tuple #[.string ⟨s.toArray⟩,.slice A n c,.int .i64 0])∧Byt w B A n c r|.torn=>e=.returned (.tuple #[.string ⟨#[]⟩,.slice none 0 0,.int .i64 3])|.form=>e=.returned (.tuple #[.string ⟨#[]⟩,.slice none 0 0,.int .i64 2]))∧ ∃q,w'=w.drewN q
theorem srcb_any(w:World)(B:Nat)(A:Option Addr)(n k:Nat)(l:List UInt8)(h:Byt w B A n k l)(hn:n≤1000000000):Calls Tryz.prog 120 #[.slice A n k] w (SrcRPost w B l):=by
 have HB:=qH h;have hlen:=h.len;have hcap:=h.cap;have hmax:=h.max;unfold maxLen at hmax;have HTN:=qH (show∀q,srcR l=.torn→SrcRPost w B l (.returned (.tuple #[.string ⟨#[]⟩,.slice none 0 0,.int .i64 3])) (w.drewN q)from fun q h1=>by unfold SrcRPost;rw[h1];exact⟨rfl,q,rfl⟩);have HFM:=qH (show∀q,srcR l=.form→SrcRPost w B l (.returned (.tuple #[.string ⟨#[]⟩,.slice none 0 0,.int .i64 2])) (w.drewN q)from fun q h1=>by unfold SrcRPost;rw[h1];exact⟨rfl,q,rfl⟩);have HOK:=qH (show∀q s r A n c,srcR l=.ok s r→Byt w B A n c r→SrcRPost w B l (.returned (.tuple #[.string ⟨s.toArray⟩,.slice A n c,.int .i64 0])) (w.drewN q)from fun q s r A n c h1 h2=>by unfold SrcRPost;rw[h1];exact⟨⟨_,_,_,rfl,h2⟩,q,rfl⟩);clear h;cases l with
  |nil=>simp only[List.length_nil]at hlen;subst hlen;have HF:=qH (HTN.out 0 rfl);go_enter Tryz.func120,Tryz.ntmps120;go_wp2;go_ret3;exact HF.out
  |cons c t=>
   simp only[List.length_cons]at hlen;obtain⟨b,off,rfl,hb,hc⟩:=HB.out.cell (by omega);have hc0:w.cell? ⟨b,off,none⟩=some (.int .u8 c.toNat):=hc 0 (by simp);have hR:srcR (c::t)=if t.length<c.toNat then .torn else if nameB (t.take c.toNat)then .ok (t.take c.toNat) (t.drop c.toNat)else .form:=rfl;have hx256:=c.toNat_lt;generalize c.toNat=x at*;have hn1:1≤n:=by omega
   by_cases h1:t.length<x
   ·rw[if_pos h1]at hR;have HF:=qH (HTN.out 0 hR);have t1:(n:Int)-1<x:=by omega
    clear hR hc hlen;go_enter Tryz.func120,Tryz.ntmps120;go_wp2;go_ret3;exact HF.out
   ·rw[if_neg h1]at hR;have t1: ¬(n:Int)-1<x:=by omega
    by_cases hk1:k=1
    ·obtain rfl:x=0:=by omega
     obtain rfl:n=1:=by omega
     subst hk1;have HF:=qH (show SrcRPost w B (c::t) (.returned (.tuple #[.string ⟨#[]⟩,.slice none 0 0,.int .i64 2])) w from HFM.out 0 (by rw[hR];rfl));have hst:=(Byt.nil w B (some ⟨b,off,none⟩) 0 (Nat.zero_le _)).str (P:=Tryz.prog) 32 5 9 Tryz.underlying32 Tryz.underlying5 Tryz.underlying9;have HNM:=qH (name_all w []);have hn0:nameB []=false:=by decide
     rw[hn0]at HNM;clear hR hc hlen;go_enter Tryz.func120,Tryz.ntmps120;go_wp2_with fail;with_reducible refine HNM.out.mono ?_
     rintro r w1⟨rfl,rfl⟩;go_wp2;go_ret3;exact HF.out
    ·have hcut:=HB.out.cut 1 x (by omega);have hd1:((c::t).drop 1).take x=t.take x:=rfl;rw[hd1]at hcut;have hst:=hcut.str (P:=Tryz.prog) 32 5 9 Tryz.underlying32 Tryz.underlying5 Tryz.underlying9;have HNM:=qH (name_all w (t.take x));have htl:=HB.out.tail (1+x) (by omega);have hd2:(c::t).drop (1+x)=t.drop x:=by rw[Nat.add_comm];rfl
     rw[hd2]at htl;have HT:=qH htl;have hxl:x≤t.length:=by omega
     clear hcut hd1 hd2 htl hc;cases hnm:nameB (t.take x)
     ·rw[hnm]at HNM hR;have HF:=qH (show SrcRPost w B (c::t) (.returned (.tuple #[.string ⟨#[]⟩,.slice none 0 0,.int .i64 2])) w from HFM.out 0 hR);clear hR hnm hlen;generalize t.take x=s at*;go_enter Tryz.func120,Tryz.ntmps120;go_wp2_with fail;with_reducible refine HNM.out.mono ?_
      rintro r w1⟨rfl,rfl⟩;go_wp2;go_ret3;exact HF.out
     ·rw[hnm]at HNM hR;simp only[if_true]at hR;have HR:=qH hR;clear hR hnm hlen;generalize t.take x=s at*;generalize t.drop x=r0 at*;go_enter Tryz.func120,Tryz.ntmps120;go_wp2_with fail;with_reducible refine HNM.out.mono ?_
      rintro r w1⟨rfl,rfl⟩;have e1:((1+x:Nat):Int)=1+(x:Int):=by omega
      rcases Classical.em (k=1+x)with hk|hk;all_goals
       first|rw[if_pos hk,hk]at HT|rw[if_neg hk]at HT
       go_wp2;go_quiet(fail);go_wp2;go_ret3;exact HOK.out _ _ _ _ _ _ HR.out HT.out
theorem numb_ok(w:World)(B:Nat)(A:Option Addr)(n k:Nat)(l:List UInt8)(h:Byt w B A n k l)(hn:n≤1000000000){v:Nat}{r:List UInt8}(hR:numR l=.ok v r):Calls Tryz.prog 119 #[.slice A n k] w fun e w'=> ∃A' n' c',e=.returned (.tuple #[.int .i64 v,.slice A' n' c',.int .i64 0])∧Byt w' B A' n' c' r∧Below w.heap.size w w':=(numb_any w B A n k l h hn).mono fun e w' hp=>by unfold NrPost at hp;rw[hR]at hp;obtain⟨⟨A',n',c',he,hb⟩,q,rfl⟩:=hp;exact⟨A',n',c',he,hb.drewN q,below_drewN (Below.refl _ _) q⟩
theorem numb_bad(w:World)(B:Nat)(A:Option Addr)(n k:Nat)(l:List UInt8)(h:Byt w B A n k l)(hn:n≤1000000000)(er:Int)(hR:(numR l=.torn∧er=3)∨(numR l=.form∧er=2)):Calls Tryz.prog 119 #[.slice A n k] w fun e w'=>e=.returned (.tuple #[.int .i64 0,.slice none 0 0,.int .i64 er])∧Below w.heap.size w w':=(numb_any w B A n k l h hn).mono fun e w' hp=>by unfold NrPost at hp;rcases hR with⟨hR,rfl⟩|⟨hR,rfl⟩<;>rw[hR]at hp<;>obtain⟨he,q,rfl⟩:=hp<;>exact⟨he,below_drewN (Below.refl _ _) q⟩
abbrev RowR(w:World)(base:Nat)(v:Value)(rs:Rg):Prop:=w.ownsRow base 173 2 v rs.length (rgCells rs)
def RgsOut(w:World)(B:Nat)(R:DecR Rg)(e:Ending)(w':World):Prop:=(match R with|.ok rs r=> ∃v A n c,e=.returned (.tuple #[v,.slice A n c,.int .i64 0])∧RowR w' w.heap.size v rs∧Byt w' B A n c r|.torn=>e=.returned (.tuple #[.slice none 0 0,.slice none 0 0,.int .i64 3])|.form=>e=.returned (.tuple #[.slice none 0 0,.slice none 0 0,.int .i64 2]))∧Below w.heap.size w w'
def RgsRel(w:World)(B N M:Nat)(R:DecR Rg)(v0 v7 v8 v25:Value)(wr:World):Prop:= ∃(k:Nat)(A:Option Addr)(n c:Nat)(cur:List UInt8)(acc:Rg),v25=.int .i64 (k:Int)∧k≤N∧v0=.slice A n c∧Byt wr B A n c cur∧RowR wr w.heap.size v7 acc∧acc.length=k∧v8=.int .i64 (endR 1 acc)∧RgOk acc∧acc.length+cur.length≤M∧rgsA (N-k) acc cur=R∧Below w.heap.size w wr
theorem endR_top{rs:Rg}(h:RgOk rs):endR 1 rs≤1099511627777:=by
 by_cases hn:rs=[];·subst hn;simp[endR]
 ·obtain⟨r,hr,he⟩:=endR_mem 1 rs hn;have:=(h.each r hr).2.2;omega
theorem bad_cases{α:Type}(R:DecR α):(∃a r,R=.ok a r)∨ ∃er:Int,(R=.torn∧er=3)∨(R=.form∧er=2):=by cases R with|ok a r=>exact .inl ⟨a,r,rfl⟩|torn=>exact .inr ⟨3,.inl ⟨rfl,rfl⟩⟩|form=>exact .inr ⟨2,.inr ⟨rfl,rfl⟩⟩
theorem rgs_fail{w w':World}{B:Nat}{R:DecR Rg}{er:Int}(h:(R=.torn∧er=3)∨(R=.form∧er=2))(hb:Below w.heap.size w w'):RgsOut w B R (.returned (.tuple #[.slice none 0 0,.slice none 0 0,.int .i64 er])) w':=by rcases h with⟨rfl,rfl⟩|⟨rfl,rfl⟩<;>exact⟨rfl,hb⟩
theorem er_ne{α:Type}{R:DecR α}{er:Int}(h:(R=.torn∧er=3)∨(R=.form∧er=2)):(er !=0)=true:=by rcases h with⟨_,rfl⟩|⟨_,rfl⟩<;>rfl
theorem rgsb_any(w:World)(B:Nat)(A:Option Addr)(n k:Nat)(l:List UInt8)(h:Byt w B A n k l)(hB:B≤w.heap.size)(hn:n≤1000000000):Calls Tryz.prog 121 #[.slice A n k] w (RgsOut w B (rangeR l)):=by
 have HB:=qH h;have hlen:=h.len;obtain⟨i0,hi,hz0,hz1,hz2⟩:=info_parts rg_info;have HI:=qH hi;have HZ0:=qH hz0;have HZ1:=qH hz1;have HZ2:=qH hz2;clear hi hz0 hz1 hz2 h;rcases bad_cases (numR l)with⟨N,r1,hR⟩|⟨er,hR⟩
 ·have hRR:rangeR l=if N=0 then .form else rgsA N [] r1:=by unfold rangeR;rw[hR]
  have hN:=(numR_ok hR).1;have hrl:=numR_len hR;have HRR:=qH hRR;have HNR:=qH hR;clear hRR hR;go_enter Tryz.func121,Tryz.ntmps121;go_wp2_with fail;with_reducible refine(numb_ok w B A n k l HB.out hn HNR.out).mono ?_
  rintro r w1⟨A1,n1,c1,rfl,hb1,hB1⟩;have HB1:=qH hB1;have HR:=HRR;clear hB1;by_cases hN0:N=0;·subst hN0;have HF:=qH (show RgsOut w B (rangeR l) (.returned (.tuple #[.slice none 0 0,.slice none 0 0,.int .i64 2])) w1 from rgs_fail (.inr ⟨HR.out,rfl⟩) HB1.out);clear hb1;go_wp2;go_ret3;exact HF.out
  ·have t0:((N:Int)==0)=false:=by simp;omega
   have HR2:=qH (show rgsA N [] r1=rangeR l from by rw[HR.out,if_neg hN0]);have HST:=qH (show RgsRel w B N l.length (rangeR l) (.slice A1 n1 c1) (.slice none 0 0) (.int .i64 1) (.int .i64 0) w1 from⟨0,A1,n1,c1,r1,[],rfl,Nat.zero_le _,rfl,hb1,World.ownsRow_nil _ _ _ _,rfl,rfl,RgOk.nil,by simp;omega,HR2.out,HB1.out⟩);clear hb1 HR hN0 HR2;generalize rangeR l=R at*;go_wp2;go_loopw[0,7,8,25](fun v0 v7 v8 v25 wr=>RgsRel w B N l.length R v0 v7 v8 v25 wr)(fun _ _ _ v25 _=>N-(intOf v25).toNat);case atStart=>exact HST.out
   case round=>
    obtain⟨j,A2,n2,c2,cur,acc,rfl,hj,rfl,hb2,ho2,hl2,rfl,hok2,hm2,hR2,hB2⟩:=hrel;have HBY:=qH hb2;have HO:=qH ho2;have HOK:=qH hok2;have HB2:=qH hB2;have HL2:=qH hl2;have hn2:=hb2.len;have he1:=endR_pos hok2;have he2:=endR_top hok2;clear hb2 ho2 hok2 hB2 HST;by_cases hjN:j<N
    ·have t1:(j:Int)<N:=by omega
     obtain⟨f,hf⟩: ∃f,N-j=f+1:=⟨N-j-1,by omega⟩;have HFF:=qH (show N-(j+1)=f from by omega);rw[hf]at hR2;simp only[rgsA]at hR2;rcases bad_cases (numR cur)with⟨gap,l1,hg⟩|⟨er,hg⟩
     ·rw[hg]at hR2;simp only at hR2;have hgap:=(numR_ok hg).1;have hl1:=numR_len hg;have HR2:=qH hR2;have HGG:=qH hg;clear hR2 hf hg;go_wp2_with fail;with_reducible refine(numb_ok wr B A2 n2 c2 cur HBY.out (by omega) HGG.out).mono ?_
      rintro r w3⟨A3,n3,c3,rfl,hb3,hB3⟩;have HBY3:=qH hb3;have hn3:=hb3.len;have HO3:=qH (ownsRow_below HO.out hB3 (Nat.le_refl _));have HB3:=qH (HB2.out.trans (hB3.mono HB2.out.size));clear hb3 hB3 HO HBY;by_cases hgz:gap=0∧acc≠[]
      ·rw[if_pos hgz]at HR2;have hj0:(0:Int)<j:=by have:=HL2.out;have:=List.length_pos_iff.2 hgz.2;omega
       have t2:((gap:Int)==0)=true:=by simp[hgz.1]
       have HF:=qH (show RgsOut w B R (.returned (.tuple #[.slice none 0 0,.slice none 0 0,.int .i64 2])) w3 from rgs_fail (.inr ⟨HR2.out.symm,rfl⟩) HB3.out);clear hgz hl2;go_wp2;go_ret3;exact HF.out
      ·rw[if_neg hgz]at HR2;have hte:(((gap:Int)==0)=true∧ ¬(0:Int)<j)∨((gap:Int)==0)=false:=by
        by_cases h0:gap=0;·left;have:acc=[]:=Classical.byContradiction fun h=>hgz ⟨h0,h⟩;have hl:=HL2.out;rw[this]at hl;simp only[List.length_nil]at hl;exact⟨by simp[h0],by omega⟩
        ·right;simp;omega
       have HGZ:=qH hgz;clear hgz hl2;rcases bad_cases (numR l1)with⟨many,l2,hm⟩|⟨er,hm⟩
       ·rw[hm]at HR2;simp only at HR2;have hmany:=(numR_ok hm).1;have hl2:=numR_len hm;have HMM:=qH hm;clear hm;rcases hte with⟨t2,t3⟩|t2;all_goals
         go_wp2_with fail;with_reducible refine(numb_ok w3 B A3 n3 c3 l1 HBY3.out (by omega) HMM.out).mono ?_
         rintro r w4⟨A4,n4,c4,rfl,hb4,hB4⟩;have hn4:=hb4.len;have HB4:=qH (HB3.out.trans (hB4.mono HB3.out.size));have HO4:=qH (ownsRow_below HO3.out hB4 (Nat.le_refl _));have hbA:Below w4.heap.size w4 (w4.alloc (.cells #[.int .i64 (endR 1 acc+gap),.int .i64 (endR 1 acc+gap+many)] 173)):=(Below.refl _ _).alloc (Nat.le_refl _) _;have z0:(w4.alloc (.cells #[.int .i64 (endR 1 acc+gap),.int .i64 (endR 1 acc+gap+many)] 173)).cell? ⟨w4.heap.size,0,none⟩=some (.int .i64 (endR 1 acc+gap)):=cell_of_row _ w4.heap.size 0 _ _ (0,0) (heap_alloc_new w4 _);have z1:(w4.alloc (.cells #[.int .i64 (endR 1 acc+gap),.int .i64 (endR 1 acc+gap+many)] 173)).cell? ⟨w4.heap.size,1,none⟩=some (.int .i64 (endR 1 acc+gap+many)):=cell_of_row _ w4.heap.size 1 _ _ (0,0) (heap_alloc_new w4 _);have HB5:=qH (HB4.out.trans (hbA.mono HB4.out.size));have HO5:=qH (ownsRow_below HO4.out hbA (Nat.le_refl _));have HBY5:=qH (hb4.below (hbA.mono (Nat.le_trans hB (HB4.out.size))));have HNE:=qH (show∀b,u7.ownBlock=some b→b≠w4.heap.size from fun b hb e=>by have:=(World.ownsRow.lt HO4.out b hb).2;omega);have hlt4:w4.heap.size<(w4.alloc (.cells #[.int .i64 (endR 1 acc+gap),.int .i64 (endR 1 acc+gap+many)] 173)).heap.size:=by simp
         clear hb4 hB4 hbA HBY3 HO3 HO4 HB3 HB4;go_upto_region 21 with fail;generalize w4.alloc (.cells #[.int .i64 (endR 1 acc+gap),.int .i64 (endR 1 acc+gap+many)] 173)=w5 at*;by_cases hmz:many=0∨1099511627777<endR 1 acc+gap+many
         ·rw[if_pos hmz]at HR2;have HF:=qH (show RgsOut w B R (.returned (.tuple #[.slice none 0 0,.slice none 0 0,.int .i64 2])) w5 from rgs_fail (.inr ⟨HR2.out.symm,rfl⟩) HB5.out);by_cases hm0:many=0
          ·have t5:((many:Int)==0)=true:=by simp[hm0]
           clear hmz hm0;go_wp2;go_ret3;exact HF.out
          ·have t5:((many:Int)==0)=false:=by simp;omega
           have t6:(1099511627777:Int)<endR 1 acc+gap+many:=by omega
           clear hmz hm0;go_wp2;go_ret3;exact HF.out
         ·rw[if_neg hmz]at HR2;have HOK2:=qH (RgOk.snoc HOK.out HGZ.out hmz);have t5:((many:Int)==0)=false:=by simp;omega
          have t6: ¬(1099511627777:Int)<endR 1 acc+gap+many:=by omega
          have HE:=qH (endR_snoc (endR 1 acc+gap,endR 1 acc+gap+many) 1 acc);have hal:acc.length≤1000000000:=by omega
          have hsz5:=HB5.out.size;clear hmz;generalize endR 1 acc+gap=ra at*;generalize ra+many=rb at*;go_wp2_with(at_builtin;refine wpList_app (P:=Tryz.prog) rfl (.tmp 68) (.tmp 70) 171 rfl 173 i0 _ 2 16 Tryz.underlying171 HI.out HZ0.out HZ1.out HZ2.out rfl (by decide) w.heap.size _ acc.length (rgCells acc) rfl ?c1 (w5.heap.size+1) _ _ _ [.int .i64 ra,.int .i64 rb] rfl ?c2 ?c3 ?c4 ?c5 ?c6 ?_);case c1=>exact World.ownsRow.alloc HO5.out _
          case c2=>exact Cel.new (size:=2) (n:=1) w5 #[.int .i64 ra,.int .i64 rb] _ (by unfold maxLen;omega) rfl
          case c3=>first|exact rgCells_one [(ra,rb)]|exact⟨rfl,rfl⟩
          case c4=>unfold maxLen;omega
          case c5=>omega
          case c6=>first|omega|(simp;omega)
          intro v' w6 hown6 hg6 hv6;have HR6:=qH (show RgsRel w B N l.length R (.slice A4 n4 c4) v' (.int .i64 rb) (.int .i64 ((j+1:Nat):Int)) w6 from⟨j+1,A4,n4,c4,l2,acc++[(ra,rb)],rfl,hjN,rfl,by
           refine HBY5.out.keep fun p hp=>?_;have hp5:p.block<w5.heap.size:=by omega
           have hne:some p.block≠u7.ownBlock:=fun e=>by have:=(World.ownsRow.lt HO5.out p.block e.symm).1;omega
           rw[World.cell?_of_block (w:=w5.alloc _) (hg6.block p.block (by simp;omega) hne)];exact World.cell?_alloc_lt w5 _ p hp5,by rw[show RowR w6 w.heap.size v' (acc++[(ra,rb)])=w6.ownsRow w.heap.size 173 2 v' (acc++[(ra,rb)]).length (rgCells (acc++[(ra,rb)]))from rfl,rgCells_append,List.length_append];exact hown6,by rw[List.length_append,HL2.out];rfl,by rw[HE.out],HOK2.out,by simp;omega,by rw[HFF.out];exact HR2.out,Below.grown (HB5.out.alloc hsz5 _) hg6 (by simp;omega) (fun k' hk'=>(World.ownsRow.lt HO5.out k' hk').1)⟩);have x1:w6.cell? ⟨w4.heap.size,1,none⟩=some (.int .i64 rb):=by rw[World.cell?_of_block (w:=w5.alloc (.cells #[.int .i64 ra,.int .i64 rb] 173)) (hg6.block w4.heap.size (by simp;omega) (fun e=>HNE.out _ e.symm rfl))];rw[World.cell?_alloc_lt w5 _ ⟨w4.heap.size,1,none⟩ hlt4];exact z1
          clear hown6 hg6 hv6 z0 z1;go_wp2;go_roundw;case rel=>exact HR6.out
          case measure=>simp[intOf];omega
       ·have HR3:=qH (show R=(if er=3 then .torn else .form)from by rw[←HR2.out];rcases hm with⟨hm,rfl⟩|⟨hm,rfl⟩<;>rw[hm]<;>rfl);clear HR2;have HF:=qH (show∀W,Below w3.heap.size w3 W→RgsOut w B R (.returned (.tuple #[.slice none 0 0,.slice none 0 0,.int .i64 er])) W from fun W hW=>rgs_fail (by
         rcases hm with⟨_,rfl⟩|⟨_,rfl⟩;·exact .inl ⟨HR3.out,rfl⟩
         ·exact .inr ⟨HR3.out,rfl⟩) (HB3.out.trans (hW.mono HB3.out.size)));have t4:(er !=0)=true:=er_ne hm;have HMM:=qH hm;clear hm;rcases hte with⟨t2,t3⟩|t2;all_goals
         go_wp2_with fail;with_reducible refine(numb_bad w3 B A3 n3 c3 l1 HBY3.out (by omega) er HMM.out).mono ?_
         rintro r w4⟨rfl,hb4⟩;have HFF:=qH (HF.out w4 hb4);clear hb4;go_wp2;go_ret3;exact HFF.out
     ·have HR2:=qH (show R=(if er=3 then .torn else .form)from by rw[←hR2];rcases hg with⟨hg,rfl⟩|⟨hg,rfl⟩<;>rw[hg]<;>rfl);have HF:=qH (show∀W,Below wr.heap.size wr W→RgsOut w B R (.returned (.tuple #[.slice none 0 0,.slice none 0 0,.int .i64 er])) W from fun W hW=>rgs_fail (by
       rcases hg with⟨_,rfl⟩|⟨_,rfl⟩;·exact .inl ⟨HR2.out,rfl⟩
       ·exact .inr ⟨HR2.out,rfl⟩) (HB2.out.trans (hW.mono HB2.out.size)));have t4:(er !=0)=true:=er_ne hg;have HGG:=qH hg;clear hg hR2 hf hl2;go_wp2_with fail;with_reducible refine(numb_bad wr B A2 n2 c2 cur HBY.out (by omega) er HGG.out).mono ?_
      rintro r w4⟨rfl,hb4⟩;have HFF:=qH (HF.out w4 hb4);clear hb4;go_wp2;go_ret3;exact HFF.out
    ·have hjE:j=N:=by omega
     rw[hjE,Nat.sub_self]at hR2;simp only[rgsA]at hR2;have t1: ¬(j:Int)<N:=by omega
     obtain⟨A7,c7,hv7⟩:=ownsRow_form HO.out;have HF:=qH (show RgsOut w B R (.returned (.tuple #[u7,.slice A2 n2 c2,.int .i64 0])) wr from by rw[←hR2];exact⟨⟨_,_,_,_,rfl,HO.out,HBY.out⟩,HB2.out⟩);subst hv7;clear hR2 hjE hl2;go_wp2;go_ret3;exact HF.out
 ·have HRB:=qH hR;go_enter Tryz.func121,Tryz.ntmps121;go_wp2_with fail;with_reducible refine(numb_bad w B A n k l HB.out hn er HRB.out).mono ?_
  rintro r w1⟨rfl,hb1⟩;have HF:=qH (show RgsOut w B (rangeR l) (.returned (.tuple #[.slice none 0 0,.slice none 0 0,.int .i64 er])) w1 from rgs_fail (by
   unfold rangeR;rcases hR with⟨hR,rfl⟩|⟨hR,rfl⟩<;>rw[hR];·exact .inl ⟨rfl,rfl⟩
   ·exact .inr ⟨rfl,rfl⟩) hb1);have t0:(er !=0)=true:=er_ne hR;clear hR hb1;go_wp2;go_ret3;exact HF.out
open Go.MapKept
theorem modify_push(es:Array MapEntry)(x:MapEntry)(f:MapEntry→MapEntry):(es.push x).modify es.size f=es.push (f x):=by
 apply Array.ext;·simp
 ·intro i h1 h2;rw[Array.getElem_modify];simp only[Array.size_modify,Array.size_push]at h1;by_cases hi:es.size=i;·subst hi;simp
  ·rw[if_neg hi,Array.getElem_push_lt (by omega),Array.getElem_push_lt (by omega)]
theorem find_born{es:Array MapEntry}(hn:(es.toList.map (·.born)).Nodup){j:Nat}(hj:j<es.size):es.findIdx? (fun e=>(e.born:Int)==((es[j]).born:Int))=some j:=by rw[Array.findIdx?_eq_some_iff_getElem];refine⟨hj,by simp,fun i hi=>?_⟩;have:=(List.pairwise_iff_getElem.1 hn) i j (by simp;omega) (by simpa using hj) hi;simp only[List.getElem_map,Array.getElem_toList]at this;simp;omega
theorem modify_two(es:Array MapEntry)(j:Nat)(f g:MapEntry→MapEntry):(es.modify j f).modify j g=es.modify j (g∘f):=by
 apply Array.ext;·simp
 ·intro i h1 h2;simp only[Array.getElem_modify];split<;>rfl
theorem MapS.entry{w:World}{b:Nat}{m:Row Value}(h:MapS w b m)(hn:m.length<maxLen)(k:List UInt8)(hk:k.length≤maxLen)(t e:TypeId)(ht:Tryz.prog.underlying t=some (.map 9 e))(z:Value)(hz:(zeroValue e).run Tryz.prog w=.ok z w)(v:Value): ∃x st W1 W2,(Instr.mapEntry t (.map (some b)) (.string ⟨k.toArray⟩)).run Tryz.prog w=.ok (.tuple #[x,.int .i64 st]) W1∧(Instr.entryStore t (.map (some b)) (.int .i64 st) v).run Tryz.prog W1=.ok () W2∧MapS W2 b (putB k v m)∧w.grownBy W2 (some b):=by
 obtain⟨W2,hr,r1,r2⟩:=h.put hn k hk t e ht v;obtain⟨es,clock,hb,F,hs,hD⟩:=h;have hlt:b<w.heap.size:=(Array.getElem?_eq_some_iff.1 hb).1;rcases keyS.find w (key_str k hk) es.toList F.keys with⟨h1,h2⟩|⟨j,e0,h1,h2,h3⟩
 ·have hru:(Instr.mapUpdate t (.map (some b)) (.string ⟨k.toArray⟩) v).run Tryz.prog w=.ok () {w with heap:=w.heap.setIfInBounds b (.map (es.push ⟨.string ⟨k.toArray⟩,v,clock⟩) (clock+1))}:=by simp[Instr.mapUpdate,run_underlying ht,MapKept.run_getObj_map hb,keyS.check w false (key_str k hk),h1,MapKept.run_setObj_map _ hb,Result.andThen]
  rw[hr]at hru;injection hru with _ hru;refine⟨z,clock,{w with heap:=w.heap.setIfInBounds b (.map (es.push ⟨.string ⟨k.toArray⟩,z,clock⟩) (clock+1))},W2,?_,?_,r1,r2⟩;·simp[Instr.mapEntry,run_underlying ht,MapKept.run_getObj_map hb,keyS.check w false (key_str k hk),h1,hz,MapKept.run_setObj_map _ hb,Result.andThen,goInt]
  ·have hb1:({w with heap:=w.heap.setIfInBounds b (.map (es.push ⟨.string ⟨k.toArray⟩,z,clock⟩) (clock+1))}:World).heap[b]?=some (.map (es.push ⟨.string ⟨k.toArray⟩,z,clock⟩) (clock+1)):=(heap_set hb).1;have hst:=stamped_push F.stamped (key:=.string ⟨k.toArray⟩) (val:=z) h2;have hf:=find_born hst.2.1 (j:=es.size) (by simp);simp only[Array.getElem_push_eq]at hf;simp only[Instr.entryStore,Sem.run_bind,MapKept.run_getObj_map hb1,Result.andThen_ok,asInt,asIntOf,Sem.run_pure,hf,MapKept.run_setObj_map _ hb1];rw[hru,modify_push];simp[Array.setIfInBounds_setIfInBounds]
 ·have hj:es[j]?=some e0:=by simpa using h2
  have hjl:j<es.size:=(Array.getElem?_eq_some_iff.1 hj).1;have hje:es[j]=e0:=(Array.getElem?_eq_some_iff.1 hj).2;have hks:=fun(W:World)=>keyS.stays W (key_str k hk);have hru:(Instr.mapUpdate t (.map (some b)) (.string ⟨k.toArray⟩) v).run Tryz.prog w=.ok () {w with heap:=w.heap.setIfInBounds b (.map (es.modify j fun e=>{e with key:=.string ⟨k.toArray⟩,val:=v}) clock)}:=by simp[Instr.mapUpdate,run_underlying ht,MapKept.run_getObj_map hb,keyS.check w false (key_str k hk),h1,hj,h3,hks,MapKept.run_setObj_map _ hb,Result.andThen]
  rw[hr]at hru;injection hru with _ hru;refine⟨e0.val,(es[j]).born,{w with heap:=w.heap.setIfInBounds b (.map (es.modify j fun e=>{e with key:=.string ⟨k.toArray⟩}) clock)},W2,?_,?_,r1,r2⟩;·simp[Instr.mapEntry,run_underlying ht,MapKept.run_getObj_map hb,keyS.check w false (key_str k hk),h1,hj,hje,h3,hks,MapKept.run_setObj_map _ hb,Result.andThen,goInt]
  ·have hb1:({w with heap:=w.heap.setIfInBounds b (.map (es.modify j fun e=>{e with key:=.string ⟨k.toArray⟩}) clock)}:World).heap[b]?=some (.map (es.modify j fun e=>{e with key:=.string ⟨k.toArray⟩}) clock):=(heap_set hb).1;have hbn:((es.modify j fun e=>{e with key:=.string ⟨k.toArray⟩}).toList.map (·.born)).Nodup:=by
    have h0:=F.stamped.2.1;have:(es.modify j fun e=>{e with key:=.string ⟨k.toArray⟩}).toList.map (·.born)=es.toList.map (·.born):=by
     apply List.ext_getElem;·simp
     ·intro i h1 h2;simp only[List.getElem_map,Array.getElem_toList,Array.getElem_modify];split<;>rfl
    rw[this];exact h0
   have hf:=find_born hbn (j:=j) (by simpa using hjl);simp only[Array.getElem_modify,if_true]at hf;simp only[Instr.entryStore,Sem.run_bind,MapKept.run_getObj_map hb1,Result.andThen_ok,asInt,asIntOf,Sem.run_pure,hf,MapKept.run_setObj_map _ hb1];rw[hru,modify_two];simp[Array.setIfInBounds_setIfInBounds,Function.comp_def]
theorem src_ok(w:World)(B:Nat)(A:Option Addr)(n k:Nat)(l:List UInt8)(h:Byt w B A n k l)(hn:n≤1000000000){s r:List UInt8}(hR:srcR l=.ok s r):Calls Tryz.prog 120 #[.slice A n k] w fun e w'=> ∃A' n' c',e=.returned (.tuple #[.string ⟨s.toArray⟩,.slice A' n' c',.int .i64 0])∧Byt w' B A' n' c' r∧Below w.heap.size w w':=(srcb_any w B A n k l h hn).mono fun e w' hp=>by unfold SrcRPost at hp;rw[hR]at hp;obtain⟨⟨A',n',c',he,hb⟩,q,rfl⟩:=hp;exact⟨A',n',c',he,hb.drewN q,below_drewN (Below.refl _ _) q⟩
theorem src_bad(w:World)(B:Nat)(A:Option Addr)(n k:Nat)(l:List UInt8)(h:Byt w B A n k l)(hn:n≤1000000000)(er:Int)(hR:(srcR l=.torn∧er=3)∨(srcR l=.form∧er=2)):Calls Tryz.prog 120 #[.slice A n k] w fun e w'=>e=.returned (.tuple #[.string ⟨#[]⟩,.slice none 0 0,.int .i64 er])∧Below w.heap.size w w':=(srcb_any w B A n k l h hn).mono fun e w' hp=>by unfold SrcRPost at hp;rcases hR with⟨hR,rfl⟩|⟨hR,rfl⟩<;>rw[hR]at hp<;>obtain⟨he,q,rfl⟩:=hp<;>exact⟨he,below_drewN (Below.refl _ _) q⟩
theorem rgs_ok(w:World)(B:Nat)(A:Option Addr)(n k:Nat)(l:List UInt8)(h:Byt w B A n k l)(hB:B≤w.heap.size)(hn:n≤1000000000){rs:Rg}{r:List UInt8}(hR:rangeR l=.ok rs r):Calls Tryz.prog 121 #[.slice A n k] w fun e w'=> ∃v A' n' c',e=.returned (.tuple #[v,.slice A' n' c',.int .i64 0])∧RowR w' w.heap.size v rs∧Byt w' B A' n' c' r∧Below w.heap.size w w':=(rgsb_any w B A n k l h hB hn).mono fun e w' hp=>by unfold RgsOut at hp;rw[hR]at hp;obtain⟨⟨v,A',n',c',he,ho,hb⟩,hbw⟩:=hp;exact⟨v,A',n',c',he,ho,hb,hbw⟩
theorem rgs_bad(w:World)(B:Nat)(A:Option Addr)(n k:Nat)(l:List UInt8)(h:Byt w B A n k l)(hB:B≤w.heap.size)(hn:n≤1000000000)(er:Int)(hR:(rangeR l=.torn∧er=3)∨(rangeR l=.form∧er=2)):Calls Tryz.prog 121 #[.slice A n k] w fun e w'=>e=.returned (.tuple #[.slice none 0 0,.slice none 0 0,.int .i64 er])∧Below w.heap.size w w':=(rgsb_any w B A n k l h hB hn).mono fun e w' hp=>by unfold RgsOut at hp;rcases hR with⟨hR,rfl⟩|⟨hR,rfl⟩<;>rw[hR]at hp<;>exact hp
theorem HadAt.entry{w W2:World}{G:Nat→Prop}{bs bh base:Nat}{m:Had}{V:List UInt8→Value}(h:HadAt w G bs bh m V){v:Value}{s:List UInt8}{rs:Rg}(ho:RowR w base v rs)(hbase: ∀b,v.ownBlock=some b→ ¬G b)(hs:bytesBefore (aheadH m) s=true)(hn:nameB s=true)(hr:RgOk rs)(hne:rs≠[])(hm:MapS W2 bh (putB s v (m.map fun p=>(p.1,V p.1))))(hg:w.grownBy W2 (some bh)):HadAt W2 (fun b=>G b∨v.ownBlock=some b) bs bh (m++[(s,rs)]) (fun x=>if x=s then v else V x):=by
 have hup:=ahead_up h.ok hs;have hns: ∀p∈m,p.1≠s:=fun p hp e=>by have:=hup p hp;rw[e,bb_irrefl]at this;cases this
 obtain⟨es,cl,hmap⟩:=h.map.isMap;have keepG: ∀b,b<w.heap.size→b≠bh→W2.heap[b]?=w.heap[b]?:=fun b hb hne=>hg.block b hb (fun e=>hne (by injection e));have hbs:bs≠bh:=ne_map h.blk hmap;have hvb: ∀b,v.ownBlock=some b→W2.heap[b]?=w.heap[b]?∧b<w.heap.size∧ ∃cs,w.heap[b]?=some (.cells cs 173 (0,0)):=fun b hb=>by
  obtain⟨cs,hc⟩: ∃cs,w.heap[b]?=some (.cells cs 173 (0,0)):=by
   rcases ho.2 with⟨e,_⟩|⟨g,cap,cur,e,_,hg',_⟩;·rw[e]at hb;cases hb
   ·rw[e]at hb;injection hb with hb;subst hb;exact⟨_,hg'⟩
  have hlt:=(World.ownsRow.lt ho b hb).2;exact⟨keepG b hlt (ne_map hc hmap),hlt,cs,hc⟩
 have hob: ∀p∈m,∀b,(V p.1).ownBlock=some b→b≠bh:=fun p hp b hb=>by
  obtain⟨cs,hc⟩: ∃cs,w.heap[b]?=some (.cells cs 173 (0,0)):=by
   rcases(h.own p hp).2 with⟨e,_⟩|⟨g,cap,cur,e,_,hg',_⟩;·rw[e]at hb;cases hb
   ·rw[e]at hb;injection hb with hb;subst hb;exact⟨_,hg'⟩
  exact ne_map hc hmap
 have hsome: ∀p∈m,∃g,(V p.1).ownBlock=some g:=fun p hp=>by
  rcases(h.own p hp).2 with⟨e,hl⟩|⟨g,cap,cur,e,_⟩;·exact absurd (List.length_eq_zero_iff.1 hl) (h.ok.each p hp).2.2
  ·exact⟨g,by rw[e];rfl⟩
 refine⟨(keepG bs (h.lt bs h.gs) hbs).trans h.blk,?_,?_,?_,.inl h.gs,.inl h.gm,?_,?_,?_,h.ok.snoc hs hn hr hne⟩
 ·rw[putB_last s v (m.map fun p=>(p.1,V p.1)) (fun p hp=>by obtain⟨q,hq,rfl⟩:=List.mem_map.1 hp;exact hup q hq)]at hm;rw[List.map_append,List.map_singleton];have e1:m.map (fun p=>(p.1,if p.1=s then v else V p.1))=m.map fun p=>(p.1,V p.1):=List.map_congr_left fun p hp=>by rw[if_neg (hns p hp)]
  rw[e1];simpa using hm
 ·intro p hp;rcases List.mem_append.1 hp with hp|hp;·simp only[if_neg (hns p hp)];exact(h.own p hp).keep fun b hb=>keepG b (h.lt b (h.foot p hp b hb)) (hob p hp b hb)
  ·simp only[List.mem_singleton]at hp;subst hp;simp only[if_true];have ho0:OwnR w v rs:=⟨ho.1,by
    rcases ho.2 with h'|⟨g,cap,cur,e,_,hg',hr'⟩;·exact .inl h'
    ·exact .inr ⟨g,cap,cur,e,Nat.zero_le _,hg',hr'⟩⟩;exact ho0.keep fun b hb=>(hvb b hb).1
 ·intro p hp q hq hpq;rcases List.mem_append.1 hp with hp|hp<;>rcases List.mem_append.1 hq with hq|hq;·simp only[if_neg (hns p hp),if_neg (hns q hq)];exact fun e1=>h.apart p hp q hq hpq e1
  ·simp only[List.mem_singleton]at hq;subst hq;simp only[if_neg (hns p hp),if_true];intro e1;obtain⟨g,hg'⟩:=hsome p hp;exact hbase g (e1▸hg') (h.foot p hp g hg')
  ·simp only[List.mem_singleton]at hp;subst hp;simp only[if_neg (hns q hq),if_true];intro e1;obtain⟨g,hg'⟩:=hsome q hq;exact hbase g (e1.trans hg') (h.foot q hq g hg')
  ·simp only[List.mem_singleton]at hp hq;subst hp hq;exact absurd rfl hpq
 ·intro p hp b hb;rcases List.mem_append.1 hp with hp|hp;·simp only[if_neg (hns p hp)]at hb;exact .inl (h.foot p hp b hb)
  ·simp only[List.mem_singleton]at hp;subst hp;simp only[if_true]at hb;exact .inr hb
 ·intro b hb;rcases hb with hb|hb;·exact Nat.lt_of_lt_of_le (h.lt b hb) hg.size
  ·exact Nat.lt_of_lt_of_le (hvb b hb).2.1 hg.size
 ·intro b hb;by_cases e1:b=bs;·exact .inl e1
  by_cases e2:b=bh;·exact .inr (.inl e2)
  right;right;rcases hb with hb|hb
  ·rcases h.typ b hb with h'|h'|⟨cs,hc⟩;·exact absurd h' e1
   ·exact absurd h' e2
   ·exact⟨cs,(keepG b (h.lt b hb) e2).trans hc⟩
  ·obtain⟨h1,_,cs,hc⟩:=hvb b hb;exact⟨cs,h1.trans hc⟩
theorem bl_bbH: ∀a b:List UInt8,Op.bytesLess a b=bytesBefore a b:=fun a=>by induction a with|nil=>intro b;cases b<;>simp[Op.bytesLess,bytesBefore]|cons x a ih=>intro b;cases b with|nil=>simp[Op.bytesLess,bytesBefore]|cons y b=>simp only[Op.bytesLess,bytesBefore,ih b]
def HdOut(w:World)(R:DecR Had)(e:Ending)(w':World):Prop:=(match R with|.ok m _=> ∃bs bh G V,e=.returned (.tuple #[.pointer (some ⟨bs,0,none⟩),.int .i64 0])∧HadAt w' G bs bh m V∧ ∀b,G b→w.heap.size≤b|.torn=>e=.returned (.tuple #[.pointer none,.int .i64 3])|.form=>e=.returned (.tuple #[.pointer none,.int .i64 2]))∧Below w.heap.size w w'
def endH:DecR Had→DecR Had|.ok m r=>if r=[]then .ok m []else .form|.torn=>.torn|.form=>.form
def HdRel(w:World)(bs bh N M:Nat)(R:DecR Had)(v0 v7 v21:Value)(wr:World):Prop:= ∃(k:Nat)(A:Option Addr)(n c:Nat)(cur:List UInt8)(m:Had)(G:Nat→Prop)(V:List UInt8→Value),v21=.int .i64 (k:Int)∧k≤N∧v0=.slice A n c∧Byt wr w.heap.size A n c cur∧v7=.string ⟨(aheadH m).toArray⟩∧m.length=k∧HadAt wr G bs bh m V∧(∀b,G b→w.heap.size≤b)∧m.length+cur.length≤M∧endH (srcsA (N-k) m cur)=R∧Below w.heap.size w wr
theorem hd_fail{w w':World}{R:DecR Had}{er:Int}(h:(R=.torn∧er=3)∨(R=.form∧er=2))(hb:Below w.heap.size w w'):HdOut w R (.returned (.tuple #[.pointer none,.int .i64 er])) w':=by rcases h with⟨rfl,rfl⟩|⟨rfl,rfl⟩<;>exact⟨rfl,hb⟩
theorem hdec_any(w:World)(A:Option Addr)(n k:Nat)(l:List UInt8)(h:Byt w w.heap.size A n k l)(hn:n≤1000000000):Calls Tryz.prog 59 #[.slice A n k] w (HdOut w (decH l)):=by
 have HB:=qH h;have hlen:=h.len;clear h;rcases bad_cases (numR l)with⟨N,r1,hR⟩|⟨er,hR⟩
 ·have HRR:=qH (show decH l=endH (srcsA N [] r1)from by unfold decH;rw[hR];show(match srcsA N [] r1 with|.torn=>_|.form=>_|.ok m r=>_)=_;cases srcsA N [] r1<;>rfl);have hN:=(numR_ok hR).1;have hrl:=numR_len hR;have HNR:=qH hR;clear hR;generalize decH l=R at*;go_enter Tryz.func59,Tryz.ntmps59;go_wp2_with fail;with_reducible refine(numb_ok w w.heap.size A n k l HB.out hn HNR.out).mono ?_
  rintro r w1⟨A1,n1,c1,rfl,hb1,hB1⟩;have HY1:=qH hb1;have HB1:=qH hB1;clear hb1 hB1;go_wp2_with fail;with_reducible refine(hadnew_any w1).mono ?_
  rintro r w2⟨bs,bh,rfl,hh2,hbs,hbh,hB2⟩;have HY2:=qH (HY1.out.below (hB2.mono HB1.out.size));have HB2:=qH (HB1.out.trans (hB2.mono HB1.out.size));have hs1:=HB1.out.size;have HST:=qH (show HdRel w bs bh N l.length R (.slice A1 n1 c1) (.string ⟨#[]⟩) (.int .i64 0) w2 from⟨0,A1,n1,c1,r1,[],_,_,rfl,Nat.zero_le _,rfl,HY2.out,rfl,rfl,hh2,(fun b hb=>by rcases hb with rfl|rfl<;>omega),by simp;omega,HRR.out.symm,HB2.out⟩);clear hh2 hbs hbh hB2 HY1 HY2 HB1 HRR;go_wp2;go_loopw[0,7,21](fun v0 v7 v21 wr=>HdRel w bs bh N l.length R v0 v7 v21 wr)(fun _ _ v21 _=>N-(intOf v21).toNat);case atStart=>exact HST.out
  case round=>
   obtain⟨j,A2,n2,c2,cur,m,G,V,rfl,hj,rfl,hb2,rfl,hl2,hh2,hG2,hm2,hR2,hB3⟩:=hrel;have HBY:=qH hb2;have HH:=qH hh2;have HG:=qH hG2;have HB3:=qH hB3;have HL2:=qH hl2;have hn2:=hb2.len;have hsz:=hB3.size;have hbhm:m.length<maxLen:=by unfold maxLen;omega
   clear hb2 hh2 hG2 hB3 hl2 HST;by_cases hjN:j<N
   ·have t1:(j:Int)<N:=by omega
    obtain⟨f,hf⟩: ∃f,N-j=f+1:=⟨N-j-1,by omega⟩;have HFF:=qH (show N-(j+1)=f from by omega);rw[hf]at hR2;simp only[srcsA]at hR2;rcases bad_cases (srcR cur)with⟨s,l1,hg⟩|⟨er,hg⟩
    ·rw[hg]at hR2;simp only at hR2;obtain⟨hnm,k1,hk0,hk1,hl1d⟩:=srcR_ok hg;have hl1:l1.length<cur.length:=by rw[hl1d,List.length_drop];omega
     have hs24:s.length≤24:=by unfold nameB at hnm;simp at hnm;omega
     have HR2:=qH hR2;have HGG:=qH hg;have HNM:=qH hnm;clear hR2 hf hg hl1d hnm hk0 hk1;go_wp2_with fail;with_reducible refine(src_ok wr w.heap.size A2 n2 c2 cur HBY.out (by omega) HGG.out).mono ?_
     rintro r w3⟨A3,n3,c3,rfl,hb3,hB4⟩;have HBY3:=qH hb3;have hn3:=hb3.len;have HH3:=qH (HH.out.up hB4);have HB4:=qH (HB3.out.trans (hB4.mono hsz));clear hb3 hB4 HH HBY HB3;cases hbb:bytesBefore (aheadH m) s
     ·rw[hbb]at HR2;have HF:=qH (show HdOut w R (.returned (.tuple #[.pointer none,.int .i64 2])) w3 from hd_fail (.inr ⟨HR2.out.symm,rfl⟩) HB4.out);have hcase:(Op.bytesLess s (aheadH m)=false∧(s==aheadH m)=true)∨(Op.bytesLess s (aheadH m)=true∧(s==aheadH m)=false):=by
       rw[bl_bbH];by_cases he:s=aheadH m;·left;rw[he];exact⟨bb_irrefl _,by simp⟩
       ·right;rcases bb_total he with h'|h';·exact⟨h',by simpa using he⟩
        ·rw[h']at hbb;cases hbb
      clear hbb;rcases hcase with⟨t2,t3⟩|⟨t2,t3⟩;all_goals go_wp2;go_ret2;exact HF.out
     ·rw[hbb]at HR2;simp only[if_true]at HR2;have t2:Op.bytesLess s (aheadH m)=false:=by rw[bl_bbH];cases h':bytesBefore s (aheadH m)with|false=>rfl|true=>have:=bb_trans hbb h';rw[bb_irrefl]at this;cases this
      have t3:(s==aheadH m)=false:=by
       have:s≠aheadH m:=fun e=>by rw[e,bb_irrefl]at hbb;cases hbb
       simpa using this
      have HBB:=qH hbb;clear hbb;rcases bad_cases (rangeR l1)with⟨rs,l2,hr⟩|⟨er,hr⟩
      ·rw[hr]at HR2;simp only at HR2;obtain⟨hro,hrne,hrl2,_⟩:=rangeR_ok hr;have HRO:=qH hro;have HRN:=qH hrne;have HRR:=qH hr;clear hr hro hrne;go_wp2_with fail;with_reducible refine(rgs_ok w3 w.heap.size A3 n3 c3 l1 HBY3.out HB4.out.size (by omega) HRR.out).mono ?_
       rintro r w5⟨v5,A5,n5,c5,rfl,ho5,hb5,hB5⟩;obtain⟨A6,k6,hv6⟩:=ownsRow_form ho5;subst hv6;have HBY5:=qH hb5;have HO5:=qH ho5;have hn5:=hb5.len;have HH5:=qH (HH3.out.up hB5);have HVG:=qH (show∀b,(Value.slice A6 rs.length k6).ownBlock=some b→ ¬G b from fun b hb hg=>by have:=(World.ownsRow.lt ho5 b hb).1;have:=HH3.out.lt b hg;omega);have HB5:=qH (HB4.out.trans (hB5.mono HB4.out.size));have HV5:=qH (show∀b,(Value.slice A6 rs.length k6).ownBlock=some b→w.heap.size≤b from fun b hb=>by have:=(World.ownsRow.lt ho5 b hb).1;have:=HB4.out.size;omega);obtain⟨x7,st7,W1,W2,hme,hes,hm7,hg7⟩:=HH5.out.map.entry (by rw[List.length_map];exact hbhm) s (by unfold maxLen;omega) 137 171 Tryz.underlying137 _ (zeroRgs w5) (.slice A6 rs.length k6);have HH7:=qH (HH5.out.entry HO5.out HVG.out HBB.out HNM.out HRO.out HRN.out hm7 hg7);have hlt5:=HH5.out.lt bh HH5.out.gm;have HB7:=qH (show Below w.heap.size w W2 from Below.grown HB5.out hg7 HB5.out.size (fun k' hk'=>by injection hk' with hk';have:=HG.out bh HH5.out.gm;omega));have HBY7:=qH (show Byt W2 w.heap.size A5 n5 c5 l2 from HBY5.out.keep fun p hp=>World.cell?_of_block (w:=w5) (hg7.block p.block (by have:=HB5.out.size;omega) (fun e=>by injection e with e;have:=HG.out bh HH5.out.gm;omega)));have hc0:=HH5.out.cell;have HR7:=qH (show HdRel w bs bh N l.length R (.slice A5 n5 c5) (.string ⟨s.toArray⟩) (.int .i64 ((j+1:Nat):Int)) W2 from⟨j+1,A5,n5,c5,l2,m++[(s,rs)],_,_,rfl,hjN,rfl,HBY7.out,by rw[aheadH_snoc],by rw[List.length_append,HL2.out];rfl,HH7.out,(fun b hb=>hb.elim (HG.out b) (HV5.out b)),by simp;omega,by rw[HFF.out];exact HR2.out,HB7.out⟩);clear ho5 hb5 hB5 hm7 hg7 hn5;go_wp2;go_roundw;case rel=>exact HR7.out
       case measure=>simp[intOf];omega
      ·have HR3:=qH (show R=(if er=3 then .torn else .form)from by rw[←HR2.out];rcases hr with⟨hr,rfl⟩|⟨hr,rfl⟩<;>rw[hr]<;>rfl);have HF:=qH (show∀W,Below w3.heap.size w3 W→HdOut w R (.returned (.tuple #[.pointer none,.int .i64 er])) W from fun W hW=>hd_fail (by
        rcases hr with⟨_,rfl⟩|⟨_,rfl⟩;·exact .inl ⟨HR3.out,rfl⟩
        ·exact .inr ⟨HR3.out,rfl⟩) (HB4.out.trans (hW.mono HB4.out.size)));have t4:(er !=0)=true:=er_ne hr;have HRR:=qH hr;clear hr HR2;go_wp2_with fail;with_reducible refine(rgs_bad w3 w.heap.size A3 n3 c3 l1 HBY3.out HB4.out.size (by omega) er HRR.out).mono ?_
       rintro r w5⟨rfl,hb5⟩;have HFF:=qH (HF.out w5 hb5);clear hb5;go_wp2;go_ret2;exact HFF.out
    ·have HR3:=qH (show R=(if er=3 then .torn else .form)from by rw[←hR2];rcases hg with⟨hg,rfl⟩|⟨hg,rfl⟩<;>rw[hg]<;>rfl);have HF:=qH (show∀W,Below wr.heap.size wr W→HdOut w R (.returned (.tuple #[.pointer none,.int .i64 er])) W from fun W hW=>hd_fail (by
      rcases hg with⟨_,rfl⟩|⟨_,rfl⟩;·exact .inl ⟨HR3.out,rfl⟩
      ·exact .inr ⟨HR3.out,rfl⟩) (HB3.out.trans (hW.mono hsz)));have t4:(er !=0)=true:=er_ne hg;have HGG:=qH hg;clear hg hR2 hf;go_wp2_with fail;with_reducible refine(src_bad wr w.heap.size A2 n2 c2 cur HBY.out (by omega) er HGG.out).mono ?_
     rintro r w4⟨rfl,hb4⟩;have HFF:=qH (HF.out w4 hb4);clear hb4;go_wp2;go_ret2;exact HFF.out
   ·have hjE:j=N:=by omega
    rw[hjE,Nat.sub_self]at hR2;simp only[srcsA,endH]at hR2;have t1: ¬(j:Int)<N:=by omega
    by_cases hc0:cur=[]
    ·rw[if_pos hc0]at hR2;have t2: ¬(0:Int)<n2:=by rw[←hn2,hc0];simp
     have HF:=qH (show HdOut w R (.returned (.tuple #[.pointer (some ⟨bs,0,none⟩),.int .i64 0])) wr from by rw[←hR2];exact⟨⟨bs,bh,G,V,rfl,HH.out,HG.out⟩,HB3.out⟩);clear hR2 hjE hc0 hn2;go_wp2;go_ret2;exact HF.out
    ·rw[if_neg hc0]at hR2;have t2:(0:Int)<n2:=by have:=List.length_pos_iff.2 hc0;omega
     have HF:=qH (show HdOut w R (.returned (.tuple #[.pointer none,.int .i64 2])) wr from hd_fail (.inr ⟨hR2.symm,rfl⟩) HB3.out);clear hR2 hjE hc0 hn2;go_wp2;go_ret2;exact HF.out
 ·have HRB:=qH hR;go_enter Tryz.func59,Tryz.ntmps59;go_wp2_with fail;with_reducible refine(numb_bad w w.heap.size A n k l HB.out hn er HRB.out).mono ?_
  rintro r w1⟨rfl,hb1⟩;have HF:=qH (show HdOut w (decH l) (.returned (.tuple #[.pointer none,.int .i64 er])) w1 from hd_fail (by
   unfold decH;rcases hR with⟨hR,rfl⟩|⟨hR,rfl⟩<;>rw[hR];·exact .inl ⟨rfl,rfl⟩
   ·exact .inr ⟨rfl,rfl⟩) hb1);have t0:(er !=0)=true:=er_ne hR;clear hR hb1;go_wp2;go_ret2;exact HF.out
end Go.Proofs.YtbejfgmdkmddnaaGreatDoor
