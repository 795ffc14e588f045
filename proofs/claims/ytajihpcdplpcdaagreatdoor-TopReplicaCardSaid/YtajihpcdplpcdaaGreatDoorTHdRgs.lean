/-
  Layer 7: ranges that bytes begin with.
-/
import Derived.Test.YtajihpcdplpcdaaGreatDoorTWhole
import Derived.Test.YtajihpcdplpcdaaGreatDoorTOfStay
import Derived.Test.YtajihpcdplpcdaaGreatDoorTHad
import Derived.Test.YtajihpcdplpcdaaGreatDoorTRowK
import Derived.Deep.DeepCutAuto
set_option maxRecDepth 100000
set_option maxHeartbeats 16000000
namespace Go.Proofs.YtajihpcdplpcdaaGreatDoor
open Go.RowKit
theorem or_shift(a m i:Nat)(h:a<2^i):a|||m*2^i=a+m*2^i:=by have:=Nat.shiftLeft_add_eq_or_of_lt h m;rw[Nat.shiftLeft_eq]at this;rw[Nat.or_comm,←this,Nat.add_comm]
theorem and127b(x:Nat)(h:x<256):bits .and .u8 (x:Int) 127=((x%128:Nat):Int):=by
 show IntKind.u8.wrap ((BitVec.ofInt 8 (x:Int)&&&BitVec.ofInt 8 ((127:Nat):Int)).toNat:Int)=_;have e:(BitVec.ofInt 8 (x:Int)&&&BitVec.ofInt 8 ((127:Nat):Int)).toNat=x%128:=by rw[BitVec.toNat_and,BitVec.ofInt_natCast,BitVec.ofInt_natCast,BitVec.toNat_ofNat,BitVec.toNat_ofNat,Nat.mod_eq_of_lt (by omega:x<2^8)];exact Nat.and_two_pow_sub_one_eq_mod x 7
 rw[e];simp[IntKind.wrap,IntKind.bits,IntKind.signed];omega
open Go.Maps Go.Sort
def NrPost(w:World)(B:Nat)(l:List UInt8)(e:Ending)(w':World):Prop:=(match numR l with|.ok v r=> ∃A n c,e=.returned (.tuple #[.int .i64 v,.slice A n c,.int .i64 0])∧Byt w B A n c r|.torn=>e=.returned (.tuple #[.int .i64 0,.slice none 0 0,.int .i64 3])|.form=>e=.returned (.tuple #[.int .i64 0,.slice none 0 0,.int .i64 2]))∧ ∃q,w'=w.drewN q
def NumRel(w:World)(l:List UInt8)(acc i:Value)(W:World):Prop:= ∃q a:Nat,i=.int .i64 q∧q≤6∧acc=.int .i64 a∧a<128^q∧numD (6-q) q a (l.drop q)=numR l∧W=w
theorem Byt.tail{w:World}{B n c b off:Nat}{l:List UInt8}(h:Byt w B (some ⟨b,off,none⟩) n c l)(k:Nat)(hk:k≤n):Byt w B (if c=k then some ⟨b,off,none⟩else some ⟨b,off+k,none⟩) (n-k) (c-k) (l.drop k):=by
 have hcut:=h.cut k (n-k) (by omega);have hl:=h.len;have:(l.drop k).take (n-k)=l.drop k:=List.take_of_length_le (by simp;omega);rw[this]at hcut;split
 ·rename_i hc;have hcap:=h.cap;have:n-k=0:=by omega
  have h0:l.drop k=[]:=List.drop_of_length_le (by omega);rw[this,h0];exact Byt.nil w B _ _ (by have:=h.max;omega)
 ·exact hcut
theorem numb_any(w:World)(B:Nat)(A:Option Addr)(n k:Nat)(l:List UInt8)(h:Byt w B A n k l)(hn:n≤1000000000):Calls Tryz.prog 99 #[.slice A n k] w (NrPost w B l):=by
 have HB:=qH h;have hlen:=h.len;have hcap:=h.cap;have hmax:=h.max;unfold maxLen at hmax;have HST:=qH (show NumRel w l (.int .i64 0) (.int .i64 0) w from⟨0,0,rfl,by omega,rfl,by simp,rfl,rfl⟩);have HTN:=qH (show∀W q,numR l=.torn→W=w.drewN q→NrPost w B l (.returned (.tuple #[.int .i64 0,.slice none 0 0,.int .i64 3])) W from fun W q h1 h2=>by unfold NrPost;rw[h1];exact⟨rfl,q,h2⟩);have HFM:=qH (show∀W q,numR l=.form→W=w.drewN q→NrPost w B l (.returned (.tuple #[.int .i64 0,.slice none 0 0,.int .i64 2])) W from fun W q h1 h2=>by unfold NrPost;rw[h1];exact⟨rfl,q,h2⟩);have HOK:=qH (show∀W q(v:Nat)(z:Int)r A n c,z=v→numR l=.ok v r→Byt w B A n c r→W=w.drewN q→NrPost w B l (.returned (.tuple #[.int .i64 z,.slice A n c,.int .i64 0])) W from fun W q v z r A n c h0 h1 h2 h3=>by subst h0;unfold NrPost;rw[h1];exact⟨⟨_,_,_,rfl,h2⟩,q,h3⟩);have HLEN:=qH hlen;clear h hlen;go_enter Tryz.func99,Tryz.ntmps99;go_wp2;go_loopw[5,6,7,8](fun acc _ _ i W=>NumRel w l acc i W)(fun _ _ _ i _=>6-(intOf i).toNat);case atStart=>exact HST.out
 case round=>
  obtain⟨q,a,rfl,hq,rfl,ha,hR,hW⟩:=hrel;subst hW;by_cases hq6:q<6
  ·by_cases hql:q<n
   ·obtain⟨b,off,rfl,hb,hc⟩:=HB.out.cell (by omega);have hqL:q<l.length:=by rw[HLEN.out];exact hql
    have hcq:=hc q hqL;have hbyt:=HB.out.tail (q+1) (by omega);have HT:=qH hbyt;have hdr:l.drop q=l[q]::l.drop (q+1):=List.drop_eq_getElem_cons hqL;obtain⟨f,hf⟩: ∃f,6-q=f+1:=⟨5-q,by omega⟩;rw[hdr,hf]at hR;simp only[numD]at hR;have hx256:=(l[q]).toNat_lt;generalize l[q].toNat=x at*;have HA:=qH (and127b x hx256);have hp7:128^q=2^(7*q):=by rw[Nat.pow_mul]
    have HOR:=qH (show∀m:Nat,m<128→bits .or .i64 (a:Int) ((m*128^q:Nat):Int)=((a+m*128^q:Nat):Int)from fun m hm=>by have h1:m*128^q≤128*128^5:=Nat.mul_le_mul (by omega) (Nat.pow_le_pow_right (by omega) (by omega));have h2:128^q≤128^5:=Nat.pow_le_pow_right (by omega) (by omega);rw[i64_or_nat _ _ (by omega) (by omega)];rw[hp7]at ha⊢;rw[or_shift _ _ _ ha]);clear hdr hc hbyt hp7;by_cases hz:x=0∧0<q
    ·rw[if_pos hz]at hR;obtain⟨rfl,hq0⟩:=hz;have HF:=qH (HFM.out wr 0 hR.symm rfl);have t1:(0:Int)<q:=by omega
     clear hR HST HT HA HOR ha;go_wp2;go_ret3;exact HF.out
    ·rw[if_neg hz]at hR;by_cases hlo:x<128
     ·rw[if_pos hlo]at hR;have HR:=qH hR.symm;have HO:=qH (HOR.out x hlo);rw[Nat.mod_eq_of_lt hlo]at HA;have hw: ∀z:Nat,z<4611686018427387904→wrap64 (z:Int)=z:=fun z hz=>by unfold wrap64;omega
      have HW:=qH hw;have hp5:a+x*128^q<4611686018427387904:=by have h1:x*128^q≤128*128^5:=Nat.mul_le_mul (by omega) (Nat.pow_le_pow_right (by omega) (by omega));have h2:128^q≤128^5:=Nat.pow_le_pow_right (by omega) (by omega);omega
      have HP5:=qH hp5;have hqs:q=0∨q=1∨q=2∨q=3∨q=4∨q=5:=by omega
      have hzq:x=0→q=0:=fun h=>by omega
      clear hR HOR HST hz hw hp5;rcases Classical.em (k=q+1)with hk|hk;all_goals
       first|rw[if_pos hk,show k-(q+1)=0 by omega]at HT|rw[if_neg hk]at HT
       rcases hqs with rfl|rfl|rfl|rfl|rfl|rfl
      all_goals
       simp only[Nat.reducePow,Nat.reduceAdd,Nat.add_zero,Nat.mul_one,Nat.zero_add]at ha HO HT HP5 HR hcq hk;by_cases hx0:x=0
       ·first|exact absurd (hzq hx0) (by decide)|
         (subst hx0;go_wp2;go_quiet(fail);go_wp2;go_ret3;refine HOK.out _ _ _ _ _ _ _ _ ?_ HR.out HT.out rfl;have HA0:=HA.out;have HO0:=HO.out;have hw0:wrap64 0=0:=by unfold wrap64;omega
          simp only[Int.natCast_zero,Nat.add_zero]at HA0 HO0⊢;show bits BinOp.or IntKind.i64 (a:Int) (wrap64 (wrap64 (bits BinOp.and IntKind.u8 0 127)))=_;rw[HA0,hw0,hw0];exact HO0)
       ·have t2:((x:Int)==0)=false:=by simp;omega
        have t3:(x:Int)<128:=by omega
        go_wp2;go_quiet(fail);go_wp2;go_ret3;refine HOK.out _ _ _ _ _ _ _ _ ?_ HR.out HT.out rfl;first|(show bits BinOp.or IntKind.i64 (a:Int) (wrap64 (wrap64 (bits BinOp.and IntKind.u8 (x:Int) 127)))=_;rw[HA.out,HW.out x (by omega),HW.out x (by omega)];exact HO.out)|(show bits BinOp.or IntKind.i64 (a:Int) (wrap64 (wrap64 (bits BinOp.and IntKind.u8 (x:Int) 127)*128))=_;rw[HA.out,HW.out x (by omega),show((x:Int)*128)=((x*128:Nat):Int)by omega,HW.out _ (by omega)];exact HO.out)|(show bits BinOp.or IntKind.i64 (a:Int) (wrap64 (wrap64 (bits BinOp.and IntKind.u8 (x:Int) 127)*16384))=_;rw[HA.out,HW.out x (by omega),show((x:Int)*16384)=((x*16384:Nat):Int)by omega,HW.out _ (by omega)];exact HO.out)|(show bits BinOp.or IntKind.i64 (a:Int) (wrap64 (wrap64 (bits BinOp.and IntKind.u8 (x:Int) 127)*2097152))=_;rw[HA.out,HW.out x (by omega),show((x:Int)*2097152)=((x*2097152:Nat):Int)by omega,HW.out _ (by omega)];exact HO.out)|(show bits BinOp.or IntKind.i64 (a:Int) (wrap64 (wrap64 (bits BinOp.and IntKind.u8 (x:Int) 127)*268435456))=_;rw[HA.out,HW.out x (by omega),show((x:Int)*268435456)=((x*268435456:Nat):Int)by omega,HW.out _ (by omega)];exact HO.out)|(show bits BinOp.or IntKind.i64 (a:Int) (wrap64 (wrap64 (bits BinOp.and IntKind.u8 (x:Int) 127)*34359738368))=_;rw[HA.out,HW.out x (by omega),show((x:Int)*34359738368)=((x*34359738368:Nat):Int)by omega,HW.out _ (by omega)];exact HO.out)
     ·rw[if_neg hlo]at hR;have HO:=qH (HOR.out (x%128) (Nat.mod_lt _ (by omega)));have hlt:x%128<128:=Nat.mod_lt _ (by omega);have hf2:6-(q+1)=f:=by omega
      have hb2:a+x%128*128^q<128^(q+1):=by rw[Nat.pow_succ];have:x%128*128^q≤127*128^q:=Nat.mul_le_mul_right _ (by omega);omega
      have HREL:=qH (show∀z:Int,z=((a+x%128*128^q:Nat):Int)→NumRel wr l (.int .i64 z) (.int .i64 ((q:Int)+1)) wr from fun z hz=>⟨q+1,_,rfl,by omega,by rw[hz],hb2,by rw[hf2];exact hR,rfl⟩);have HW:=qH (show∀z:Nat,z<4611686018427387904→wrap64 (z:Int)=z from fun z hz=>by unfold wrap64;omega);have hqs:q=0∨q=1∨q=2∨q=3∨q=4∨q=5:=by omega
      clear hR HOR HST hz hf2 hb2 HT hf;generalize hm:x%128=m at*;have HMM:=qH hm;clear hm;have t2:((x:Int)==0)=false:=by simp;omega
      have t3: ¬(x:Int)<128:=by omega
      rcases hqs with rfl|rfl|rfl|rfl|rfl|rfl;all_goals simp only[Nat.reducePow,Nat.add_zero,Nat.mul_one]at ha HO hcq HREL;go_wp2;refine⟨HREL.out _ ?_,by simp[intOf]⟩;first|(show bits BinOp.or IntKind.i64 (a:Int) (wrap64 (wrap64 (bits BinOp.and IntKind.u8 (x:Int) 127)))=_;rw[HA.out,HW.out m (by omega),HW.out m (by omega)];exact HO.out)|(show bits BinOp.or IntKind.i64 (a:Int) (wrap64 (wrap64 (bits BinOp.and IntKind.u8 (x:Int) 127)*128))=_;rw[HA.out,HW.out m (by omega),show((m:Int)*128)=((m*128:Nat):Int)by omega,HW.out _ (by omega)];exact HO.out)|(show bits BinOp.or IntKind.i64 (a:Int) (wrap64 (wrap64 (bits BinOp.and IntKind.u8 (x:Int) 127)*16384))=_;rw[HA.out,HW.out m (by omega),show((m:Int)*16384)=((m*16384:Nat):Int)by omega,HW.out _ (by omega)];exact HO.out)|(show bits BinOp.or IntKind.i64 (a:Int) (wrap64 (wrap64 (bits BinOp.and IntKind.u8 (x:Int) 127)*2097152))=_;rw[HA.out,HW.out m (by omega),show((m:Int)*2097152)=((m*2097152:Nat):Int)by omega,HW.out _ (by omega)];exact HO.out)|(show bits BinOp.or IntKind.i64 (a:Int) (wrap64 (wrap64 (bits BinOp.and IntKind.u8 (x:Int) 127)*268435456))=_;rw[HA.out,HW.out m (by omega),show((m:Int)*268435456)=((m*268435456:Nat):Int)by omega,HW.out _ (by omega)];exact HO.out)|(show bits BinOp.or IntKind.i64 (a:Int) (wrap64 (wrap64 (bits BinOp.and IntKind.u8 (x:Int) 127)*34359738368))=_;rw[HA.out,HW.out m (by omega),show((m:Int)*34359738368)=((m*34359738368:Nat):Int)by omega,HW.out _ (by omega)];exact HO.out)
   ·have hqn:q≥l.length:=by rw[HLEN.out];omega
    rw[List.drop_of_length_le hqn]at hR;obtain⟨f,hf⟩: ∃f,6-q=f+1:=⟨5-q,by omega⟩;rw[hf]at hR;simp only[numD]at hR;have HF:=qH (HTN.out wr 0 hR.symm rfl);have t1:(n:Int)≤q:=by omega
    clear hR HST ha hf;go_wp2;go_ret3;exact HF.out
  ·have hq6':q=6:=by omega
   subst hq6';simp only[numD,Nat.sub_self]at hR;have HF:=qH (HFM.out wr 0 hR.symm rfl);clear hR HST ha;go_wp2;go_ret3;exact HF.out
theorem numb_ok(w:World)(B:Nat)(A:Option Addr)(n k:Nat)(l:List UInt8)(h:Byt w B A n k l)(hn:n≤1000000000){v:Nat}{r:List UInt8}(hR:numR l=.ok v r):Calls Tryz.prog 99 #[.slice A n k] w fun e w'=> ∃A' n' c',e=.returned (.tuple #[.int .i64 v,.slice A' n' c',.int .i64 0])∧Byt w' B A' n' c' r∧Below w.heap.size w w':=(numb_any w B A n k l h hn).mono fun e w' hp=>by unfold NrPost at hp;rw[hR]at hp;obtain⟨⟨A',n',c',he,hb⟩,q,rfl⟩:=hp;exact⟨A',n',c',he,hb.drewN q,below_drewN (Below.refl _ _) q⟩
theorem numb_bad(w:World)(B:Nat)(A:Option Addr)(n k:Nat)(l:List UInt8)(h:Byt w B A n k l)(hn:n≤1000000000)(er:Int)(hR:(numR l=.torn∧er=3)∨(numR l=.form∧er=2)):Calls Tryz.prog 99 #[.slice A n k] w fun e w'=>e=.returned (.tuple #[.int .i64 0,.slice none 0 0,.int .i64 er])∧Below w.heap.size w w':=(numb_any w B A n k l h hn).mono fun e w' hp=>by unfold NrPost at hp;rcases hR with⟨hR,rfl⟩|⟨hR,rfl⟩<;>rw[hR]at hp<;>obtain⟨he,q,rfl⟩:=hp<;>exact⟨he,below_drewN (Below.refl _ _) q⟩
abbrev RowR(w:World)(base:Nat)(v:Value)(rs:Rg):Prop:=w.ownsRow base 192 2 v rs.length (rgCells rs)
def RgsOut(w:World)(B:Nat)(R:DecR Rg)(e:Ending)(w':World):Prop:=(match R with|.ok rs r=> ∃v A n c,e=.returned (.tuple #[v,.slice A n c,.int .i64 0])∧RowR w' w.heap.size v rs∧Byt w' B A n c r|.torn=>e=.returned (.tuple #[.slice none 0 0,.slice none 0 0,.int .i64 3])|.form=>e=.returned (.tuple #[.slice none 0 0,.slice none 0 0,.int .i64 2]))∧Below w.heap.size w w'
def RgsRel(w:World)(B N M:Nat)(R:DecR Rg)(v0 v7 v8 v25:Value)(wr:World):Prop:= ∃(k:Nat)(A:Option Addr)(n c:Nat)(cur:List UInt8)(acc:Rg),v25=.int .i64 (k:Int)∧k≤N∧v0=.slice A n c∧Byt wr B A n c cur∧RowR wr w.heap.size v7 acc∧acc.length=k∧v8=.int .i64 (endR 1 acc)∧RgOk acc∧acc.length+cur.length≤M∧rgsA (N-k) acc cur=R∧Below w.heap.size w wr
theorem endR_top{rs:Rg}(h:RgOk rs):endR 1 rs≤1099511627777:=by
 by_cases hn:rs=[];·subst hn;simp[endR]
 ·obtain⟨r,hr,he⟩:=endR_mem 1 rs hn;have:=(h.each r hr).2.2;omega
theorem bad_cases{α:Type}(R:DecR α):(∃a r,R=.ok a r)∨ ∃er:Int,(R=.torn∧er=3)∨(R=.form∧er=2):=by cases R with|ok a r=>exact .inl ⟨a,r,rfl⟩|torn=>exact .inr ⟨3,.inl ⟨rfl,rfl⟩⟩|form=>exact .inr ⟨2,.inr ⟨rfl,rfl⟩⟩
theorem rgs_fail{w w':World}{B:Nat}{R:DecR Rg}{er:Int}(h:(R=.torn∧er=3)∨(R=.form∧er=2))(hb:Below w.heap.size w w'):RgsOut w B R (.returned (.tuple #[.slice none 0 0,.slice none 0 0,.int .i64 er])) w':=by rcases h with⟨rfl,rfl⟩|⟨rfl,rfl⟩<;>exact⟨rfl,hb⟩
theorem er_ne{α:Type}{R:DecR α}{er:Int}(h:(R=.torn∧er=3)∨(R=.form∧er=2)):(er !=0)=true:=by rcases h with⟨_,rfl⟩|⟨_,rfl⟩<;>rfl
theorem rgsb_any(w:World)(B:Nat)(A:Option Addr)(n k:Nat)(l:List UInt8)(h:Byt w B A n k l)(hB:B≤w.heap.size)(hn:n≤1000000000):Calls Tryz.prog 101 #[.slice A n k] w (RgsOut w B (rangeR l)):=by
 have HB:=qH h;have hlen:=h.len;obtain⟨i0,hi,hz0,hz1,hz2⟩:=info_parts rg_info;have HI:=qH hi;have HZ0:=qH hz0;have HZ1:=qH hz1;have HZ2:=qH hz2;clear hi hz0 hz1 hz2 h;rcases bad_cases (numR l)with⟨N,r1,hR⟩|⟨er,hR⟩
 ·have hRR:rangeR l=if N=0 then .form else rgsA N [] r1:=by unfold rangeR;rw[hR]
  have hN:=(numR_ok hR).1;have hrl:=numR_len hR;have HRR:=qH hRR;have HNR:=qH hR;clear hRR hR;go_enter Tryz.func101,Tryz.ntmps101;go_wp2_with fail;with_reducible refine(numb_ok w B A n k l HB.out hn HNR.out).mono ?_
  rintro r w1⟨A1,n1,c1,rfl,hb1,hB1⟩;have HB1:=qH hB1;have HR:=HRR;clear hB1;by_cases hN0:N=0;·subst hN0;have HF:=qH (show RgsOut w B (rangeR l) (.returned (.tuple #[.slice none 0 0,.slice none 0 0,.int .i64 2])) w1 from rgs_fail (.inr ⟨HR.out,rfl⟩) HB1.out);clear hb1;go_wp2;go_ret3;exact HF.out
  ·have t0:((N:Int)==0)=false:=by simp;omega
   have HR2:=qH (show rgsA N [] r1=rangeR l from by rw[HR.out,if_neg hN0]);have HST:=qH (show RgsRel w B N l.length (rangeR l) (.slice A1 n1 c1) (.slice none 0 0) (.int .i64 1) (.int .i64 0) w1 from⟨0,A1,n1,c1,r1,[],rfl,Nat.zero_le _,rfl,hb1,World.ownsRow_nil _ _ _ _,rfl,rfl,RgOk.nil,by simp;omega,HR2.out,HB1.out⟩);clear hb1 HR hN0 HR2;generalize rangeR l=R at*;go_wp2;go_loopw[0,7,8,25](fun v0 v7 v8 v25 wr=>RgsRel w B N l.length R v0 v7 v8 v25 wr)(fun _ _ _ v25 _=>N-(intOf v25).toNat);case atStart=>exact HST.out
   case round=>
    obtain⟨j,A2,n2,c2,cur,acc,rfl,hj,rfl,hb2,ho2,hl2,rfl,hok2,hm2,hR2,hB2⟩:=hrel;have HBY:=qH hb2;have HO:=qH ho2;have HOK:=qH hok2;have HB2:=qH hB2;have HL2:=qH hl2;have hn2:=hb2.len;have he1:=endR_pos hok2;have he2:=endR_top hok2;clear hb2 ho2 hok2 hB2 HST;by_cases hjN:j<N
    ·have t1:(j:Int)<N:=by omega
     obtain⟨f,hf⟩: ∃f,N-j=f+1:=⟨N-j-1,by omega⟩;have HFF:=qH (show N-(j+1)=f from by omega);rw[hf]at hR2;simp only[rgsA]at hR2;rcases bad_cases (numR cur)with⟨gap,l1,hg⟩|⟨er,hg⟩
     ·rw[hg]at hR2;simp only at hR2;have hgap:=(numR_ok hg).1;have hl1:=numR_len hg;have HR2:=qH hR2;have HGG:=qH hg;clear hR2 hf hg;go_wp2_with fail;with_reducible refine(numb_ok wr B A2 n2 c2 cur HBY.out (by omega) HGG.out).mono ?_
      rintro r w3⟨A3,n3,c3,rfl,hb3,hB3⟩;have HBY3:=qH hb3;have hn3:=hb3.len;have HO3:=qH (ownsRow_below HO.out hB3 (Nat.le_refl _));have HB3:=qH (HB2.out.trans (hB3.mono HB2.out.size));clear hb3 hB3 HO HBY;by_cases hgz:gap=0∧acc≠[]
      ·rw[if_pos hgz]at HR2;have hj0:(0:Int)<j:=by have:=HL2.out;have:=List.length_pos_iff.2 hgz.2;omega
       have t2:((gap:Int)==0)=true:=by simp[hgz.1]
       have HF:=qH (show RgsOut w B R (.returned (.tuple #[.slice none 0 0,.slice none 0 0,.int .i64 2])) w3 from rgs_fail (.inr ⟨HR2.out.symm,rfl⟩) HB3.out);clear hgz hl2;go_wp2;go_ret3;exact HF.out
      ·rw[if_neg hgz]at HR2;have hte:(((gap:Int)==0)=true∧ ¬(0:Int)<j)∨((gap:Int)==0)=false:=by
        by_cases h0:gap=0;·left;have:acc=[]:=Classical.byContradiction fun h=>hgz ⟨h0,h⟩;have hl:=HL2.out;rw[this]at hl;simp only[List.length_nil]at hl;exact⟨by simp[h0],by omega⟩
        ·right;simp;omega
       have HGZ:=qH hgz;clear hgz hl2;rcases bad_cases (numR l1)with⟨many,l2,hm⟩|⟨er,hm⟩
       ·rw[hm]at HR2;simp only at HR2;have hmany:=(numR_ok hm).1;have hl2:=numR_len hm;have HMM:=qH hm;clear hm;rcases hte with⟨t2,t3⟩|t2;all_goals
         go_wp2_with fail;with_reducible refine(numb_ok w3 B A3 n3 c3 l1 HBY3.out (by omega) HMM.out).mono ?_
         rintro r w4⟨A4,n4,c4,rfl,hb4,hB4⟩;have hn4:=hb4.len;have HB4:=qH (HB3.out.trans (hB4.mono HB3.out.size));have HO4:=qH (ownsRow_below HO3.out hB4 (Nat.le_refl _));have hbA:Below w4.heap.size w4 (w4.alloc (.cells #[.int .i64 (endR 1 acc+gap),.int .i64 (endR 1 acc+gap+many)] 192)):=(Below.refl _ _).alloc (Nat.le_refl _) _;have z0:(w4.alloc (.cells #[.int .i64 (endR 1 acc+gap),.int .i64 (endR 1 acc+gap+many)] 192)).cell? ⟨w4.heap.size,0,none⟩=some (.int .i64 (endR 1 acc+gap)):=cell_of_row _ w4.heap.size 0 _ _ (0,0) (heap_alloc_new w4 _);have z1:(w4.alloc (.cells #[.int .i64 (endR 1 acc+gap),.int .i64 (endR 1 acc+gap+many)] 192)).cell? ⟨w4.heap.size,1,none⟩=some (.int .i64 (endR 1 acc+gap+many)):=cell_of_row _ w4.heap.size 1 _ _ (0,0) (heap_alloc_new w4 _);have HB5:=qH (HB4.out.trans (hbA.mono HB4.out.size));have HO5:=qH (ownsRow_below HO4.out hbA (Nat.le_refl _));have HBY5:=qH (hb4.below (hbA.mono (Nat.le_trans hB (HB4.out.size))));have HNE:=qH (show∀b,u7.ownBlock=some b→b≠w4.heap.size from fun b hb e=>by have:=(World.ownsRow.lt HO4.out b hb).2;omega);have hlt4:w4.heap.size<(w4.alloc (.cells #[.int .i64 (endR 1 acc+gap),.int .i64 (endR 1 acc+gap+many)] 192)).heap.size:=by simp
         clear hb4 hB4 hbA HBY3 HO3 HO4 HB3 HB4;go_upto_region 21 with fail;generalize w4.alloc (.cells #[.int .i64 (endR 1 acc+gap),.int .i64 (endR 1 acc+gap+many)] 192)=w5 at*;by_cases hmz:many=0∨1099511627777<endR 1 acc+gap+many
         ·rw[if_pos hmz]at HR2;have HF:=qH (show RgsOut w B R (.returned (.tuple #[.slice none 0 0,.slice none 0 0,.int .i64 2])) w5 from rgs_fail (.inr ⟨HR2.out.symm,rfl⟩) HB5.out);by_cases hm0:many=0
          ·have t5:((many:Int)==0)=true:=by simp[hm0]
           clear hmz hm0;go_wp2;go_ret3;exact HF.out
          ·have t5:((many:Int)==0)=false:=by simp;omega
           have t6:(1099511627777:Int)<endR 1 acc+gap+many:=by omega
           clear hmz hm0;go_wp2;go_ret3;exact HF.out
         ·rw[if_neg hmz]at HR2;have HOK2:=qH (RgOk.snoc HOK.out HGZ.out hmz);have t5:((many:Int)==0)=false:=by simp;omega
          have t6: ¬(1099511627777:Int)<endR 1 acc+gap+many:=by omega
          have HE:=qH (endR_snoc (endR 1 acc+gap,endR 1 acc+gap+many) 1 acc);have hal:acc.length≤1000000000:=by omega
          have hsz5:=HB5.out.size;clear hmz;generalize endR 1 acc+gap=ra at*;generalize ra+many=rb at*;go_wp2_with(at_builtin;refine wpList_app (P:=Tryz.prog) rfl (.tmp 68) (.tmp 70) 180 rfl 192 i0 _ 2 16 Tryz.underlying180 HI.out HZ0.out HZ1.out HZ2.out rfl (by decide) w.heap.size _ acc.length (rgCells acc) rfl ?c1 (w5.heap.size+1) _ _ _ [.int .i64 ra,.int .i64 rb] rfl ?c2 ?c3 ?c4 ?c5 ?c6 ?_);case c1=>exact World.ownsRow.alloc HO5.out _
          case c2=>exact Cel.new (size:=2) (n:=1) w5 #[.int .i64 ra,.int .i64 rb] _ (by unfold maxLen;omega) rfl
          case c3=>first|exact rgCells_one [(ra,rb)]|exact⟨rfl,rfl⟩
          case c4=>unfold maxLen;omega
          case c5=>omega
          case c6=>first|omega|(simp;omega)
          intro v' w6 hown6 hg6 hv6;have HR6:=qH (show RgsRel w B N l.length R (.slice A4 n4 c4) v' (.int .i64 rb) (.int .i64 ((j+1:Nat):Int)) w6 from⟨j+1,A4,n4,c4,l2,acc++[(ra,rb)],rfl,hjN,rfl,by
           refine HBY5.out.keep fun p hp=>?_;have hp5:p.block<w5.heap.size:=by omega
           have hne:some p.block≠u7.ownBlock:=fun e=>by have:=(World.ownsRow.lt HO5.out p.block e.symm).1;omega
           rw[World.cell?_of_block (w:=w5.alloc _) (hg6.block p.block (by simp;omega) hne)];exact World.cell?_alloc_lt w5 _ p hp5,by rw[show RowR w6 w.heap.size v' (acc++[(ra,rb)])=w6.ownsRow w.heap.size 192 2 v' (acc++[(ra,rb)]).length (rgCells (acc++[(ra,rb)]))from rfl,rgCells_append,List.length_append];exact hown6,by rw[List.length_append,HL2.out];rfl,by rw[HE.out],HOK2.out,by simp;omega,by rw[HFF.out];exact HR2.out,Below.grown (HB5.out.alloc hsz5 _) hg6 (by simp;omega) (fun k' hk'=>(World.ownsRow.lt HO5.out k' hk').1)⟩);have x1:w6.cell? ⟨w4.heap.size,1,none⟩=some (.int .i64 rb):=by rw[World.cell?_of_block (w:=w5.alloc (.cells #[.int .i64 ra,.int .i64 rb] 192)) (hg6.block w4.heap.size (by simp;omega) (fun e=>HNE.out _ e.symm rfl))];rw[World.cell?_alloc_lt w5 _ ⟨w4.heap.size,1,none⟩ hlt4];exact z1
          clear hown6 hg6 hv6 z0 z1;go_wp2;go_roundw;case rel=>exact HR6.out
          case measure=>simp[intOf];omega
       ·have HR3:=qH (show R=(if er=3 then .torn else .form)from by rw[←HR2.out];rcases hm with⟨hm,rfl⟩|⟨hm,rfl⟩<;>rw[hm]<;>rfl);clear HR2;have HF:=qH (show∀W,Below w3.heap.size w3 W→RgsOut w B R (.returned (.tuple #[.slice none 0 0,.slice none 0 0,.int .i64 er])) W from fun W hW=>rgs_fail (by
         rcases hm with⟨_,rfl⟩|⟨_,rfl⟩;·exact .inl ⟨HR3.out,rfl⟩
         ·exact .inr ⟨HR3.out,rfl⟩) (HB3.out.trans (hW.mono HB3.out.size)));have t4:(er !=0)=true:=er_ne hm;have HMM:=qH hm;clear hm;rcases hte with⟨t2,t3⟩|t2;all_goals
         go_wp2_with fail;with_reducible refine(numb_bad w3 B A3 n3 c3 l1 HBY3.out (by omega) er HMM.out).mono ?_
         rintro r w4⟨rfl,hb4⟩;have HFF:=qH (HF.out w4 hb4);clear hb4;go_wp2;go_ret3;exact HFF.out
     ·have HR2:=qH (show R=(if er=3 then .torn else .form)from by rw[←hR2];rcases hg with⟨hg,rfl⟩|⟨hg,rfl⟩<;>rw[hg]<;>rfl);have HF:=qH (show∀W,Below wr.heap.size wr W→RgsOut w B R (.returned (.tuple #[.slice none 0 0,.slice none 0 0,.int .i64 er])) W from fun W hW=>rgs_fail (by
       rcases hg with⟨_,rfl⟩|⟨_,rfl⟩;·exact .inl ⟨HR2.out,rfl⟩
       ·exact .inr ⟨HR2.out,rfl⟩) (HB2.out.trans (hW.mono HB2.out.size)));have t4:(er !=0)=true:=er_ne hg;have HGG:=qH hg;clear hg hR2 hf hl2;go_wp2_with fail;with_reducible refine(numb_bad wr B A2 n2 c2 cur HBY.out (by omega) er HGG.out).mono ?_
      rintro r w4⟨rfl,hb4⟩;have HFF:=qH (HF.out w4 hb4);clear hb4;go_wp2;go_ret3;exact HFF.out
    ·have hjE:j=N:=by omega
     rw[hjE,Nat.sub_self]at hR2;simp only[rgsA]at hR2;have t1: ¬(j:Int)<N:=by omega
     obtain⟨A7,c7,hv7⟩:=ownsRow_form HO.out;have HF:=qH (show RgsOut w B R (.returned (.tuple #[u7,.slice A2 n2 c2,.int .i64 0])) wr from by rw[←hR2];exact⟨⟨_,_,_,_,rfl,HO.out,HBY.out⟩,HB2.out⟩);subst hv7;clear hR2 hjE hl2;go_wp2;go_ret3;exact HF.out
 ·have HRB:=qH hR;go_enter Tryz.func101,Tryz.ntmps101;go_wp2_with fail;with_reducible refine(numb_bad w B A n k l HB.out hn er HRB.out).mono ?_
  rintro r w1⟨rfl,hb1⟩;have HF:=qH (show RgsOut w B (rangeR l) (.returned (.tuple #[.slice none 0 0,.slice none 0 0,.int .i64 er])) w1 from rgs_fail (by
   unfold rangeR;rcases hR with⟨hR,rfl⟩|⟨hR,rfl⟩<;>rw[hR];·exact .inl ⟨rfl,rfl⟩
   ·exact .inr ⟨rfl,rfl⟩) hb1);have t0:(er !=0)=true:=er_ne hR;clear hR hb1;go_wp2;go_ret3;exact HF.out
end Go.Proofs.YtajihpcdplpcdaaGreatDoor
