/-
  Layer 2, the document's: Tags, Label, In.
-/
import Derived.Test.YtladegonienapaaGreatDoorREvListing
set_option maxRecDepth 100000
set_option maxHeartbeats 16000000
namespace Go.Proofs.YtladegonienapaaGreatDoor
open Go.RowKit
theorem rn02(w:World)(l:List UInt8)(hm:l.length≤1000000000):Calls Tryz.prog 109 #[.string ⟨l.toArray⟩] w fun e w'=>e=.returned (.bool (ae l))∧w=w':=by
 by_cases h0:l.length<1;·go_enter Tryz.func109,Tryz.ntmps109;go_wp2;go_ret;rw[dX (.inl h0)];exact⟨rfl,rfl⟩
 by_cases h24:24<l.length;·go_enter Tryz.func109,Tryz.ntmps109;go_wp2;go_ret;rw[dX (.inr h24)];exact⟨rfl,rfl⟩
 have d0:decide ((l.length:Int)<1)=false:=decide_eq_false (by omega);have d1:decide (24<(l.length:Int))=false:=decide_eq_false (by omega);go_enter Tryz.func109,Tryz.ntmps109;go_wp2;go_loop[3](fun i=> ∃k:Nat,i=.int .i64 k∧k≤l.length∧Hid (∀j(hj:j<l.length),j<k→eU l[j]=true))(fun i=>l.length-(intOf i).toNat);case atStart=>exact⟨0,rfl,Nat.zero_le _,fun j _ h=>by omega⟩
 case round=>
  obtain⟨k,rfl,hk,HK⟩:=hrel;by_cases hkn:k<l.length
  ·have g0:(⟨l.toArray⟩:ByteArray)[k]'(by simpa[ByteArray.size]using hkn)=l[k]:=rfl;have HC:=qS (eU l[k]=((decide (97≤l[k].toNat)&&decide (l[k].toNat≤122))||(decide (48≤l[k].toNat)&&decide (l[k].toNat≤57))||decide (l[k].toNat=45))) (rfl);have HB:=qH (fun h=>vB (l:=l) k hkn h);have HN:=qS (∀h:eU l[k]=true,∀j(hj:j<l.length),j<k+1→eU l[j]=true) (fun h j hj hlt=>by
    by_cases e:j=k;·subst e;exact h
    ·exact HK.o j hj (by omega));have hx:=l[k].toNat_lt;generalize hc:eU l[k]=cc at*;clear hc;generalize Og:l[k]=x at*;clear Og;have hcc:cc=true∨cc=false:=by cases cc<;>simp
   rcases hcc with hcc|hcc
   ·have uf:Hid (((97≤x.toNat∧x.toNat≤122)∨(48≤x.toNat∧x.toNat≤57))∨x.toNat=45):=by have:=HC.o;rw[hcc]at this;unfold Hid;simpa using this.symm
    have Kw:=qH (HN.o hcc);clear hcc HC HB HN;have e45:Hid ((x.toNat:Int)=45↔x.toNat=45):=by unfold Hid;omega
    rcases uf.o with(⟨a1,a2⟩|⟨a1,a2⟩)|a1
    ·have b1:decide (97≤(x.toNat:Int))=true:=decide_eq_true (by omega);have b2:decide ((x.toNat:Int)≤122)=true:=decide_eq_true (by omega);go_wp2;go_round;case rel=>exact⟨k+1,by go_num,by omega,Kw.o⟩
     case measure=>simp[intOf];omega
    ·have b1:decide (97≤(x.toNat:Int))=false:=decide_eq_false (by omega);have b2:decide (48≤(x.toNat:Int))=true:=decide_eq_true (by omega);have b3:decide ((x.toNat:Int)≤57)=true:=decide_eq_true (by omega);go_wp2;go_round;case rel=>exact⟨k+1,by go_num,by omega,Kw.o⟩
     case measure=>simp[intOf];omega
    ·have b1:decide (97≤(x.toNat:Int))=false:=decide_eq_false (by omega);have b2:decide (48≤(x.toNat:Int))=false:=decide_eq_false (by omega);have b3:((x.toNat:Int)==45)=true:=by simp;omega
     have A1:=qH a1;clear a1;go_wp2;go_round;case rel=>exact⟨k+1,by go_num,by omega,Kw.o⟩
     case measure=>simp[intOf];omega
   ·have uf:Hid (¬(((97≤x.toNat∧x.toNat≤122)∨(48≤x.toNat∧x.toNat≤57))∨x.toNat=45)):=by
     have:=HC.o;rw[hcc]at this;unfold Hid;intro hh;have h2:(decide (97≤x.toNat)&&decide (x.toNat≤122)||decide (48≤x.toNat)&&decide (x.toNat≤57)||decide (x.toNat=45))=true:=by simpa using hh
     rw[h2]at this;cases this
    have hB:=HB.o hcc;have IQ:=qH hB;clear hcc HC HN HB hB;have b5:((x.toNat:Int)==45)=false:=by have:=uf.o;simp;omega
    have hcases:(123≤x.toNat)∨(97>x.toNat∧58≤x.toNat)∨(x.toNat<48):=by have:=uf.o;omega
    rcases hcases with a1|⟨a1,a2⟩|a1;·have b1:decide (97≤(x.toNat:Int))=true:=decide_eq_true (by omega);have b2:decide ((x.toNat:Int)≤122)=false:=decide_eq_false (by omega);have b3:decide (48≤(x.toNat:Int))=true:=decide_eq_true (by omega);have b4:decide ((x.toNat:Int)≤57)=false:=decide_eq_false (by omega);go_wp2;go_ret;rw[IQ.o];exact⟨rfl,rfl⟩
    ·have b1:decide (97≤(x.toNat:Int))=false:=decide_eq_false (by omega);have b3:decide (48≤(x.toNat:Int))=true:=decide_eq_true (by omega);have b4:decide ((x.toNat:Int)≤57)=false:=decide_eq_false (by omega);go_wp2;go_ret;rw[IQ.o];exact⟨rfl,rfl⟩
    ·have b1:decide (97≤(x.toNat:Int))=false:=decide_eq_false (by omega);have b3:decide (48≤(x.toNat:Int))=false:=decide_eq_false (by omega);go_wp2;go_ret;rw[IQ.o];exact⟨rfl,rfl⟩
  ·have hB:ae l=true:=mV (by omega) (by omega) (fun j hj=>HK.o j hj (by omega));have IQ:=qH hB;clear hB;go_wp2;go_ret;rw[IQ.o];exact⟨rfl,rfl⟩
open Go.Maps Go.Sort
theorem CF{c:UInt8}: ∀{s:List UInt8}(k:Nat)(hk:k<s.length),s[k]=c→(∀j(hj:j<s.length),j<k→s[j]≠c)→Lib.index s [c]=k
 |[],k,hk,_,_=>by simp at hk
 |b::l,0,_,h,_=>by have hb:b=c:=h;subst hb;rw[Lib.index];simp[List.isPrefixOf]
 |b::l,k+1,hk,h,hn=>by
  have hb:b≠c:=hn 0 (by simp) (by omega);have hp:([c]:List UInt8).isPrefixOf (b::l)=false:=by simp[List.isPrefixOf,Ne.symm hb]
  have ih:=CF (s:=l) k (by simpa using hk) (by simpa using h) (fun j hj hjk=>hn (j+1) (by simpa using hj) (by omega));rw[Lib.index,hp,ih];have:((k:Int)== -1)=false:=by rw[beq_eq_false_iff_ne];omega
  simp[this]
theorem zi{c:UInt8}: ∀{s:List UInt8},(∀j(hj:j<s.length),s[j]≠c)→Lib.index s [c]= -1
 |[],_=>by simp[Lib.index]
 |b::l,hn=>by
  have hb:b≠c:=hn 0 (by simp);have hp:([c]:List UInt8).isPrefixOf (b::l)=false:=by simp[List.isPrefixOf,Ne.symm hb]
  have ih:=zi (s:=l) (fun j hj=>hn (j+1) (by simpa using hj));rw[Lib.index,hp,ih];rfl
def aP(c:UInt8):List UInt8→List (List UInt8)|[]=>[[]]|x::r=>if x=c then[]::aP c r else(x::(aP c r).headD [])::(aP c r).tail
theorem qz{c:UInt8}: ∀{a:List UInt8},c∉a→aP c a=[a]|[],_=>rfl|x::a,h=>by simp only[List.mem_cons,not_or]at h;rw[aP,if_neg (Ne.symm h.1),qz h.2];rfl
theorem rW{c:UInt8}(b:List UInt8): ∀{a:List UInt8},c∉a→aP c (a++c::b)=a::aP c b|[],_=>by rw[List.nil_append,aP,if_pos rfl]|x::a,h=>by simp only[List.mem_cons,not_or]at h;rw[List.cons_append,aP,if_neg (Ne.symm h.1),rW b h.2];rfl
theorem nR(c:UInt8): ∀s:List UInt8,Lib.splitK [c] 0 (Lib.count s [c]) s=aP c s
 |[]=>by rw[Lib.count_miss (by simp[Lib.index])];rfl
 |b::l=>by
  have ih:=nR c l;by_cases h:b=c
  ·subst h;have hix:Lib.index (b::l) [b]=0:=by rw[Lib.index];simp[List.isPrefixOf]
   rw[Lib.count_cons_eq,Nat.add_comm,Lib.splitK,hix,aP,if_pos rfl,←ih];rfl
  ·have hp:([c]:List UInt8).isPrefixOf (b::l)=false:=by simp[List.isPrefixOf,Ne.symm h]
   have hix:Lib.index (b::l) [c]=if Lib.index l [c]== -1 then-1 else Lib.index l [c]+1:=by rw[Lib.index,hp];simp
   rw[Lib.count_cons_ne b c l h,aP,if_neg h,←ih];by_cases hm:Lib.index l [c]= -1;·rw[Lib.count_miss hm];rfl
   ·have hge:=Lib.index_ge l [c];obtain⟨j,hj⟩: ∃j:Nat,Lib.index l [c]=j:=⟨(Lib.index l [c]).toNat,by omega⟩;have hne:(Lib.index l [c]== -1)=false:=by rw[beq_eq_false_iff_ne];exact hm
    have hne2:(((j:Int)+1)== -1)=false:=by rw[beq_eq_false_iff_ne];omega
    have hne3:((j:Int)== -1)=false:=by rw[beq_eq_false_iff_ne];omega
    rw[Lib.count_hit (by simp) hj,Nat.add_comm,Lib.splitK,Lib.splitK,hix,hne,hj];simp only[Bool.false_eq_true,if_false,hne2,List.headD_cons,List.tail_cons,List.length_singleton,Nat.add_zero];rw[show((j:Int)+1).toNat=j+1 by omega,show((j:Int)).toNat=j by omega];rfl
theorem x8(s:List UInt8):dw s=if(dQ s).isEmpty then[]else aP 44 (dQ s):=by
 unfold dw;split;·rfl
 ·rw[Lib.splitB_data,←nR];try rfl
theorem mO(w:World)(l:List UInt8)(hm:l.length≤1000000000):Calls Tryz.prog 166 #[.string ⟨l.toArray⟩] w fun e w'=>e=.returned (.int .i64 (Lib.index l [59]))∧w=w':=by
 go_enter Tryz.func166,Tryz.ntmps166;go_wp2;go_loop[3](fun i=> ∃k:Nat,i=.int .i64 k∧k≤l.length∧Hid (∀j(hj:j<l.length),j<k→l[j]≠59))(fun i=>l.length-(intOf i).toNat);case atStart=>exact⟨0,rfl,Nat.zero_le _,fun j _ h=>by omega⟩
 case round=>
  obtain⟨k,rfl,hk,HK⟩:=hrel;by_cases hkn:k<l.length
  ·have g0:(⟨l.toArray⟩:ByteArray)[k]'(by simpa[ByteArray.size]using hkn)=l[k]:=rfl;by_cases h59:l[k]=59
   ·have HI:=qH (CF k hkn h59 HK.o);have b1:((l[k].toNat:Int)==59)=true:=by rw[h59];rfl
    clear h59;generalize l[k]=x at*;go_wp2;go_ret;exact⟨dB HI.o.symm,rfl⟩
   ·have HN:=qS (∀j(hj:j<l.length),j<k+1→l[j]≠59) (fun j hj hlt=>by
     by_cases e:j=k;·subst e;exact h59
     ·exact HK.o j hj (by omega));have b1:((l[k].toNat:Int)==59)=false:=by
     rw[beq_eq_false_iff_ne];intro e;exact h59 (UInt8.toNat_inj.1 (by
      have:l[k].toNat=59:=by omega
      rw[this];rfl))
    clear h59;generalize l[k]=x at*;go_wp2;go_round;case rel=>exact⟨k+1,by go_num,by omega,HN.o⟩
    case measure=>simp[intOf];omega
  ·have HI:=qH (zi (c:=59) (s:=l) (fun j hj=>HK.o j hj (by omega)));go_wp2;go_ret;exact⟨dB HI.o.symm,rfl⟩
theorem Au(w:World)(l:List UInt8)(hm:l.length≤1000000000):Calls Tryz.prog 167 #[.string ⟨l.toArray⟩] w fun e w'=>e=.returned (.string ⟨(Lib.cut l [59]).1.toArray⟩)∧w=w':=by
 have HC:=qS (Lib.cut l [59]=if 0≤Lib.index l [59]then(l.take (Lib.index l [59]).toNat,l.drop ((Lib.index l [59]).toNat+1),true)else(l,[],false)) (rfl);have hroom:=Lib.index_room l [59];go_enter Tryz.func167,Tryz.ntmps167;go_wp2_with fail;refine(mO w l hm).mono ?_;rintro r w1⟨rfl,rfl⟩;by_cases h0:0≤Lib.index l [59]
 ·obtain⟨k,hk⟩: ∃k:Nat,Lib.index l [59]=k:=⟨(Lib.index l [59]).toNat,by omega⟩;have hkl:=hroom h0;have TC:=qS ((Lib.cut l [59]).1=l.take k) (by rw[HC.o,if_pos h0,hk];rfl);rw[hk]at*;simp only[List.length_singleton]at hkl;have hkl':k<l.length:=by omega
  have hsl: ∀wx,(Instr.slice 9 (.string ⟨l.toArray⟩) none (some (.int .i64 (k:Int))) none).run Tryz.prog wx=.ok (.string ⟨(l.take k).toArray⟩) wx:=fun wx=>LU _ Tryz.underlying9 l k k rfl (by omega) wx;clear hk hroom HC hkl h0;go_wp2;go_ret;rw[TC.o];first|exact⟨rfl,rfl⟩|(rw[qV];simp)
 ·have TC:=qS ((Lib.cut l [59]).1=l) (by rw[HC.o,if_neg h0]);clear hroom HC;go_wp2;go_ret;rw[TC.o];exact⟨rfl,rfl⟩
theorem Cv{c:UInt8}{s:List UInt8}{f k:Nat}(hk:k≤s.length)(h: ∀j(hj:j<s.length),f≤j→j<k→s[j]≠c):c∉(s.drop f).take (k-f):=by intro hc;obtain⟨i,hi,he⟩:=List.getElem_of_mem hc;rw[List.length_take,List.length_drop]at hi;rw[List.getElem_take,List.getElem_drop]at he;exact h (f+i) (by omega) (by omega) (by omega) he
theorem AL{c:UInt8}{s:List UInt8}{f:Nat}(h: ∀j(hj:j<s.length),f≤j→j<s.length→s[j]≠c):aP c (s.drop f)=[(s.drop f).take (s.length-f)]:=by have e:(s.drop f).take (s.length-f)=s.drop f:=List.take_of_length_le (by simp);have:=Cv (Nat.le_refl _) h;rw[e]at this⊢;exact qz this
theorem AJ{c:UInt8}{s:List UInt8}{f k:Nat}(hf:f≤k)(hk:k<s.length)(hc:s[k]=c)(h: ∀j(hj:j<s.length),f≤j→j<k→s[j]≠c):aP c (s.drop f)=(s.drop f).take (k-f)::aP c (s.drop (k+1)):=by
 have e:s.drop f=(s.drop f).take (k-f)++c::s.drop (k+1):=by
  have e1:(s.drop f).drop (k-f)=s[k]::s.drop (k+1):=by rw[List.drop_drop,show f+(k-f)=k by omega];exact List.drop_eq_getElem_cons hk
  conv=>lhs;rw[←List.take_append_drop (k-f) (s.drop f),e1,hc]
 conv=>lhs;rw[e]
 exact rW _ (Cv (Nat.le_of_lt hk) h)
def C9(w:World)(s:List UInt8)(c:UInt8)(v f i:Value)(wr:World):Prop:= ∃(k f':Nat)(out:List (List UInt8)),i=.int .i64 k∧f=.int .i64 f'∧wr.ownsRow w.heap.size 9 1 v out.length (out.map encStr)∧Below w.heap.size w wr∧out.length≤k∧k≤s.length+1∧((k≤s.length∧f'≤k∧out++aP c (s.drop f')=aP c s∧ ∀j(hj:j<s.length),f'≤j→j<k→s[j]≠c)∨(k=s.length+1∧out=aP c s))
def lD(w:World)(ss:List (List UInt8))(e:Ending)(w':World):Prop:= ∃A c,e=.returned (.slice A ss.length c)∧Strs w' w'.heap.size A ss.length c ss∧Below w.heap.size w w'
theorem Aq(w:World)(s:List UInt8)(hs:s.length≤1000000000)(c:UInt8):Calls Tryz.prog 213 #[.string ⟨s.toArray⟩,.int .u8 c.toNat] w (lD w (aP c s)):=by
 obtain⟨i0,hi,hz0,hz1,hz2⟩:=info_parts FD;have HI:=qH hi;have HZ0:=qH hz0;have HZ1:=qH hz1;have HZ2:=qH hz2;clear hi hz0 hz1 hz2;have hsz:(⟨s.toArray⟩:ByteArray).size=s.length:=by simp[ByteArray.size]
 go_enter Tryz.func213,Tryz.ntmps213;go_wp2;go_loopw[5,6,7](fun v f i wr=>C9 w s c v f i wr)(fun _ _ i _=>s.length+1-(intOf i).toNat);case atStart=>exact⟨0,0,[],rfl,rfl,World.ownsRow_lit w #[] 0 (Nat.le_refl _) (by simp[maxLen]) rfl,(Below.refl _ _).alloc (Nat.le_refl _) _,by simp,by omega,.inl ⟨by omega,by omega,by simp,fun j _ _ h=>by omega⟩⟩
 case round=>
  obtain⟨k,f,out,rfl,rfl,hown,hbel,hol,hks,hor⟩:=hrel;have HO:=qH hown;clear hown;have I6:=qH hor;clear hor;have hbs:=hbel.size;by_cases hkn:k≤s.length
  ·have t1:(k:Int)≤s.length:=by omega
   obtain⟨_,NH,Gr,hno⟩:k≤s.length∧f≤k∧out++aP c (s.drop f)=aP c s∧ ∀j(hj:j<s.length),f≤j→j<k→s[j]≠c:=by
    rcases I6.o with h|h;·exact h
    ·omega
   have Sz:=qH Gr;have uu:=qH hno;clear Gr hno I6;have hmid: ∀wx,(Instr.slice 9 (.string ⟨s.toArray⟩) (some (.int .i64 (f:Int))) (some (.int .i64 (k:Int))) none).run Tryz.prog wx=.ok (.string ⟨((s.drop f).take (k-f)).toArray⟩) wx:=fun wx=>Jf _ Tryz.underlying9 s f k f k rfl rfl NH (by omega) wx;by_cases hke:k=s.length
   ·have HE:=qS (out++[(s.drop f).take (k-f)]=aP c s) (by rw[←Sz.o,hke,AL (fun j hj h1 h2=>uu.o j hj h1 (by omega))]);have b1:((k:Int)==(s.length:Int))=true:=by simp[hke]
    have HKK:=qH hke;clear hke;generalize(s.drop f).take (k-f)=pc at*;go_wp2_with(at_builtin;refine aJ (P:=Tryz.prog) rfl (.tmp 26) (.tmp 31) 38 rfl 9 i0 (.string ByteArray.empty) 1 16 Tryz.underlying38 HI.o HZ0.o HZ1.o HZ2.o rfl (by decide) w.heap.size _ out.length (out.map encStr) rfl ?c1 (wr.heap.size+1) _ _ _ [.string ⟨pc.toArray⟩] rfl ?c2 ?c3 ?c4 ?c5 ?c6 ?_);case c1=>exact World.ownsRow.alloc HO.o _
    case c2=>exact aI.new wr #[.string ⟨pc.toArray⟩] _ (by unfold maxLen;omega) rfl
    case c3=>simp[Value.oneCell']
    case c4=>unfold maxLen;omega
    case c5=>omega
    case c6=>first|omega|(simp;omega)
    intro v2 w2 hown2 hg2 _;have hb2:Below w.heap.size w w2:=Below.grown (hbel.alloc hbs (.cells #[.string ⟨pc.toArray⟩] 9)) hg2 (by simp;omega) (fun j hj=>(HO.o.lt j hj).1);have HR:=qS (C9 w s c v2 (.int .i64 ((k+1:Nat):Int)) (.int .i64 ((k+1:Nat):Int)) w2) (⟨k+1,k+1,out++[pc],rfl,rfl,by rw[List.map_append,List.length_append];exact hown2,hb2,by simp;omega,by omega,.inr ⟨by have:=HKK.o;omega,HE.o⟩⟩);clear hown2 hg2 hb2 hmid;go_wp2;go_roundw;case rel=>exact HR.o
    case measure=>simp[intOf];omega
   ·have Ot:k<s.length:=by omega
    have g0:(⟨s.toArray⟩:ByteArray)[k]'(by simpa[ByteArray.size]using Ot)=s[k]:=rfl;have b1:((k:Int)==(s.length:Int))=false:=by rw[beq_eq_false_iff_ne];omega
    by_cases hc:s[k]=c
    ·have HE:=qS (out++[(s.drop f).take (k-f)]++aP c (s.drop (k+1))=aP c s) (by rw[←Sz.o,AJ NH Ot hc uu.o];simp);have b2:((s[k].toNat:Int)==(c.toNat:Int))=true:=by simp[hc]
     clear hc hke;generalize(s.drop f).take (k-f)=pc at*;generalize s[k]=x at*;go_wp2_with(at_builtin;refine aJ (P:=Tryz.prog) rfl (.tmp 26) (.tmp 31) 38 rfl 9 i0 (.string ByteArray.empty) 1 16 Tryz.underlying38 HI.o HZ0.o HZ1.o HZ2.o rfl (by decide) w.heap.size _ out.length (out.map encStr) rfl ?c1 (wr.heap.size+1) _ _ _ [.string ⟨pc.toArray⟩] rfl ?c2 ?c3 ?c4 ?c5 ?c6 ?_);case c1=>exact World.ownsRow.alloc HO.o _
     case c2=>exact aI.new wr #[.string ⟨pc.toArray⟩] _ (by unfold maxLen;omega) rfl
     case c3=>simp[Value.oneCell']
     case c4=>unfold maxLen;omega
     case c5=>omega
     case c6=>first|omega|(simp;omega)
     intro v2 w2 hown2 hg2 _;have hb2:Below w.heap.size w w2:=Below.grown (hbel.alloc hbs (.cells #[.string ⟨pc.toArray⟩] 9)) hg2 (by simp;omega) (fun j hj=>(HO.o.lt j hj).1);have HR:=qS (C9 w s c v2 (.int .i64 ((k+1:Nat):Int)) (.int .i64 ((k+1:Nat):Int)) w2) (⟨k+1,k+1,out++[pc],rfl,rfl,by rw[List.map_append,List.length_append];exact hown2,hb2,by simp;omega,by omega,.inl ⟨by omega,Nat.le_refl _,HE.o,fun j _ h1 h2=>by omega⟩⟩);clear hown2 hg2 hb2 hmid;go_wp2;go_roundw;case rel=>exact HR.o
     case measure=>simp[intOf];omega
    ·have b2:((s[k].toNat:Int)==(c.toNat:Int))=false:=by rw[beq_eq_false_iff_ne];intro e;exact hc (UInt8.toNat_inj.1 (by omega))
     have HR:=qS (C9 w s c u5 (.int .i64 (f:Int)) (.int .i64 ((k+1:Nat):Int)) wr) (⟨k+1,f,out,rfl,rfl,HO.o,hbel,by omega,by omega,.inl ⟨by omega,by omega,Sz.o,fun j hj h1 h2=>by
      by_cases e:j=k;·subst e;exact hc
      ·exact uu.o j hj h1 (by omega)⟩⟩);clear hc hke hmid;generalize s[k]=x at*;go_wp2;go_roundw;case rel=>exact HR.o
     case measure=>simp[intOf];omega
  ·have t1: ¬(k:Int)≤s.length:=by omega
   have hout:out=aP c s:=by
    rcases I6.o with h|h;·exact absurd h.1 hkn
    ·exact h.2
   obtain⟨A3,c3,hv⟩:=ownsRow_form HO.o;have HR:=qS (lD w (aP c s) (.returned u5) wr) (⟨A3,c3,by rw[←hout,hv],by have:=HO.o;rw[hv]at this;rw[←hout];exact aI.bz this,hbel⟩);clear hout hv I6;go_wp2;go_ret;exact HR.o
theorem FE{P:Program}(t:TypeId)(h:P.underlying t=some .string)(l:List UInt8)(i:Int)(a:Nat)(hi:i=(a:Int))(h2:a≤l.length)(w:World):(Instr.slice t (.string ⟨l.toArray⟩) (some (.int .i64 i)) none none).run P w=.ok (.string ⟨(l.drop a).toArray⟩) w:=by
 subst hi;rw[run_slice_string_from_if w t ⟨l.toArray⟩ .i64 a h,if_pos ⟨by omega,by simpa[ByteArray.size]using h2⟩];have:(⟨l.toArray⟩:ByteArray).size=l.length:=by simp[ByteArray.size]
 rw[this,qV];simp[List.take_of_length_le]
theorem DJ(w:World)(l:List UInt8)(hm:l.length≤1000000000):Calls Tryz.prog 168 #[.string ⟨l.toArray⟩] w (lD w (dw l)):=by
 have HC:=qS (Lib.cut l [59]=if 0≤Lib.index l [59]then(l.take (Lib.index l [59]).toNat,l.drop ((Lib.index l [59]).toNat+1),true)else(l,[],false)) (rfl);have HT:=qH (x8 l);have xE:=qS (dQ l=(Lib.cut l [59]).2.1) (rfl);have hroom:=Lib.index_room l [59];have M6:=qS (∀wx:World,Below w.heap.size w wx→lD w [] (.returned (.slice (some ⟨wx.heap.size,0,none⟩) 0 0)) (wx.alloc (.cells #[] 9))) (fun wx hbx=>⟨_,0,rfl,aI.nil _ _ _ _ _ (by unfold maxLen;omega),hbx.alloc hbx.size _⟩);go_enter Tryz.func168,Tryz.ntmps168;go_wp2_with fail;refine(mO w l hm).mono ?_;rintro r w1⟨rfl,rfl⟩;by_cases h0:0≤Lib.index l [59]
 ·obtain⟨k,hk⟩: ∃k:Nat,Lib.index l [59]=k:=⟨(Lib.index l [59]).toNat,by omega⟩;have hkl:=hroom h0;have HR:=qS (dQ l=l.drop (k+1)) (by rw[xE.o,HC.o,if_pos h0,hk];rfl);rw[hk]at*;simp only[List.length_singleton]at hkl;have hkl':k<l.length:=by omega
  by_cases hl:k+1=l.length
  ·have HE:=qS (dw l=[]) (by rw[HT.o,HR.o,List.drop_of_length_le (by omega)];rfl);have b1:((k:Int)==(l.length:Int)-1)=true:=by rw[beq_iff_eq];omega
   have b0: ¬(k:Int)<0:=by omega
   clear hk hroom HC hkl h0 hl HT HR xE;go_wp2;go_ret;rw[HE.o];exact M6.o w (Below.refl _ _)
  ·have HE:=qS (dw l=aP 44 (l.drop (k+1))) (by rw[HT.o,HR.o,if_neg];rw[List.isEmpty_iff,List.drop_eq_nil_iff];omega);have b1:((k:Int)==(l.length:Int)-1)=false:=by rw[beq_eq_false_iff_ne];omega
   have b0: ¬(k:Int)<0:=by omega
   have hsl: ∀wx,(Instr.slice 9 (.string ⟨l.toArray⟩) (some (.int .i64 ((k:Int)+1))) none none).run Tryz.prog wx=.ok (.string ⟨(l.drop (k+1)).toArray⟩) wx:=fun wx=>FE _ Tryz.underlying9 l _ (k+1) (by omega) (by omega) wx;have hpl:(l.drop (k+1)).length≤1000000000:=by simp;omega
   clear hk hroom HC hkl h0 hl HT HR xE M6;generalize l.drop (k+1)=pl at*;go_wp2_with fail;refine(Aq w pl hpl 44).mono ?_;rintro r w2⟨A,c,rfl,hst,hb⟩;have HP:=qS (lD w (aP 44 pl) (.returned (.slice A (aP 44 pl).length c)) w2) (⟨A,c,rfl,hst,hb⟩);clear hst hb;generalize aP 44 pl=ps at*;go_wp2;go_ret;rw[HE.o];exact HP.o
 ·have HE:=qS (dw l=[]) (by rw[HT.o,xE.o,HC.o,if_neg h0];rfl);have b0:Lib.index l [59]<0:=by omega
  clear hroom HC HT xE h0;generalize Lib.index l [59]=ix at*;go_wp2;go_ret;rw[HE.o];exact M6.o w (Below.refl _ _)
theorem jN(w:World)(n lo hi:Int):Calls Tryz.prog 110 #[.int .i64 n,.int .i64 lo,.int .i64 hi] w fun e w'=>e=.returned (.bool (decide (lo≤n)&&decide (n≤hi)))∧w'=w:=by
 by_cases h:lo≤n;·go_enter Tryz.func110,Tryz.ntmps110;go_wp2;go_ret;exact⟨aa (by simp[h]),rfl⟩
 ·go_enter Tryz.func110,Tryz.ntmps110;go_wp2;go_ret;exact⟨aa (by simp;omega),rfl⟩
def Pf(ts:List (List UInt8))(w2:World)(i:Value)(wr:World):Prop:= ∃k q:Nat,i=.int .i64 k∧k≤ts.length∧wr=w2.drewN q∧Hid (∀j,j<k→l7 ts j=true)
theorem jw(w:World)(l:List UInt8)(hm:l.length≤1000000000):Calls Tryz.prog 109 #[.string ⟨l.toArray⟩] w fun e w'=>e=.returned (.bool (ae l))∧w'=w:=(rn02 w l hm).mono fun _ _ h=>⟨h.1,h.2.symm⟩
theorem rV(c:UInt8): ∀s:List UInt8,∀t∈aP c s,t.length≤s.length
 |[],t,ht=>by simp[aP]at ht;simp[ht]
 |x::r,t,ht=>by
  have ih:=rV c r;rw[aP]at ht;split at ht
  ·rcases List.mem_cons.1 ht with rfl|ht;·simp
   ·have:=ih t ht;simp;omega
  ·rcases List.mem_cons.1 ht with rfl|ht;·cases hp:aP c r with|nil=>simp|cons a b=>have:=ih a (by rw[hp];simp);simp;omega
   ·have:=ih t (List.mem_of_mem_tail ht);simp;omega
theorem Dz(s:List UInt8): ∀t∈dw s,t.length≤s.length:=fun t ht=>by
 rw[x8]at ht;split at ht;·simp at ht
 ·have:=rV 44 _ t ht;have:=nQ s;omega
theorem Av(w:World)(s:List UInt8)(hs:s.length≤1000000000):Calls Tryz.prog 111 #[.string ⟨s.toArray⟩] w (Says (aQ s) w):=by
 have kr:=qS (aQ s=((Lib.cut s [59]).2.2&&ae (Lib.cut s [59]).1&&decide ((dw s).length≤8)&&iR (dw s))) (rfl);have mf:=qS ((Lib.cut s [59]).2.2=decide (0≤Lib.index s [59])) (by unfold Lib.cut;split<;>simp[*]);have hcl:=qK s;have NM:=qH (Dz s);go_enter Tryz.func111,Tryz.ntmps111;go_wp2_with fail;refine(mO w s hs).mono ?_;rintro r w1⟨rfl,rfl⟩;by_cases h0:0≤Lib.index s [59];case neg=>
  have HF:=qS (aQ s=false) (by rw[kr.o,mf.o,decide_eq_false h0];rfl);have b0:Lib.index s [59]<0:=by omega
  clear h0;generalize Lib.index s [59]=ix at*;go_wp2;go_ret;exact⟨aa HF.o.symm,Below.refl _ _⟩
 have b0: ¬Lib.index s [59]<0:=by omega
 have Kz:=qS (aQ s=(ae (Lib.cut s [59]).1&&decide ((dw s).length≤8)&&iR (dw s))) (by rw[kr.o,mf.o,decide_eq_true h0];simp);clear h0 kr mf;generalize Lib.index s [59]=ix at*;go_wp2_with fail;refine(Au w s hs).mono ?_;rintro r w1⟨rfl,rfl⟩;generalize(Lib.cut s [59]).1=mk at*;go_wp2_with fail;refine(rn02 w mk (by omega)).mono ?_;rintro r w1⟨rfl,rfl⟩;generalize ae mk=nm at*;cases nm;·go_wp2;go_ret;exact⟨aa (by rw[Kz.o];rfl),Below.refl _ _⟩
 go_wp2_with fail;refine(DJ w s hs).mono ?_;rintro q w2⟨A,c,rfl,hst,hb2⟩;have HS:=qH hst;clear hst;generalize dw s=ts at*;have hcm:ts.length≤9223372036854775807:=by have h1:=aI.cap HS.o;have h2:=aI.max HS.o;unfold maxLen at h2;omega
 go_wp2;go_loopw[4](fun i wr=>Pf ts w2 i wr)(fun i _=>ts.length-(intOf i).toNat);case atStart=>exact⟨0,0,rfl,Nat.zero_le _,rfl,fun j h=>by omega⟩
 case round=>
  obtain⟨k,q,rfl,hk,rfl,HK⟩:=hrel;have hbq:Below w.heap.size w (w2.drewN q):=below_drewN hb2 q;have QN:=qS (Strs (w2.drewN q) w2.heap.size A ts.length c ts) (HS.o.drewN q);have Vg:=qS (∀m,∃q',(w2.drewN q).drewN m=w2.drewN q') (fun m=>⟨_,World.drewN_drewN ..⟩);generalize w2.drewN q=wr at*;by_cases hkn:k<ts.length
  ·obtain⟨b,off,rfl,hb,hc⟩:=QN.o.at_ k hkn;have HB:=qS (l7 ts k=(ae ts[k]&&(k==0||Op.bytesLess (ts.getD (k-1) []) ts[k]))) (by unfold l7;simp[List.getD,List.getElem?_eq_getElem hkn]);have uu:=qS (l7 ts k=false→iR ts=false) (fun h=>by unfold iR;rw[List.all_eq_false];exact⟨k,by simpa using hkn,by simp[h]⟩);have BQ:=qS (l7 ts k=true→ ∀j,j<k+1→l7 ts j=true) (fun h j hj=>by
    by_cases e:j=k;·subst e;exact h
    ·exact HK.o j (by omega));have oO:=qS (0<k→wr.cell? ⟨b,off+(k-1),none⟩=some (.string ⟨(ts.getD (k-1) []).toArray⟩)) (fun h0=>by obtain⟨b',off',e',_,hc'⟩:=QN.o.at_ (k-1) (by omega);injection e' with e';injection e' with e1 e2;subst e1 e2;rw[hc'];simp[List.getD,List.getElem?_eq_getElem (show k-1<ts.length by omega)]);have htl:ts[k].length≤1000000000:=by have:=NM.o _ (List.getElem_mem hkn);omega
   generalize ts.getD (k-1) []=p at*;have t1:(k:Int)<ts.length:=by omega
   generalize ts[k]=t at*;have HQ:=qS (∀wx,Calls Tryz.prog 109 #[.string ⟨t.toArray⟩] wx fun e w'=>e=.returned (.bool (ae t))∧w'=wx) (fun wx=>jw wx t htl);generalize ae t=nt at*;cases nt;·have HF:=qH (uu.o (by rw[HB.o];rfl));go_wp2;go_quiet((go_at_call 109;exact Calls.quiet_of_same (HQ.o _)));go_wp2;go_ret;exact⟨aa (by rw[Kz.o,HF.o];simp),below_drewN hbq _⟩
   by_cases k0:k=0
   ·subst k0;rw[Nat.add_zero]at hc;have HY:=qH (BQ.o (by rw[HB.o];rfl));go_wp2;go_quiet((go_at_call 109;exact Calls.quiet_of_same (HQ.o _)));go_wp2;go_roundw;case rel=>obtain⟨q',hq'⟩:=Vg.o nq;exact⟨1,q',by go_num,by omega,hq',HY.o⟩
    case measure=>simp[intOf];omega
   ·have hc1:=oO.o (by omega);have k1:(0:Int)<k:=by omega
    have ek:(k:Int)-1=((k-1:Nat):Int):=by omega
    have kd:decide (0<(k:Int))=true:=decide_eq_true k1;have kd':decide (0<k)=true:=decide_eq_true (by omega);have kn:0<k:=by omega
    have xJ:=qS (l7 ts k=Op.bytesLess p t) (by rw[HB.o];simp[k0]);cases hbl:Op.bytesLess p t;·have HF:=qH (uu.o (xJ.o.trans hbl));go_wp2;go_quiet((go_at_call 109;exact Calls.quiet_of_same (HQ.o _)));go_wp2;go_ret;exact⟨aa (by rw[Kz.o,HF.o];simp),below_drewN hbq _⟩
    ·have HY:=qH (BQ.o (xJ.o.trans hbl));go_wp2;go_quiet((go_at_call 109;exact Calls.quiet_of_same (HQ.o _)));go_wp2;go_roundw;case rel=>obtain⟨q',hq'⟩:=Vg.o nq;exact⟨k+1,q',by go_num,by omega,hq',HY.o⟩
     case measure=>simp[intOf];omega
  ·have HT:=qS (iR ts=true) (by
    unfold iR;rw[List.all_eq_true];intro j hj;exact HK.o j (by
     have:j<ts.length:=by simpa using hj
     omega));go_wp2;go_ret;exact⟨aa (by rw[Kz.o,HT.o];simp;omega),hbq⟩
end Go.Proofs.YtladegonienapaaGreatDoor
