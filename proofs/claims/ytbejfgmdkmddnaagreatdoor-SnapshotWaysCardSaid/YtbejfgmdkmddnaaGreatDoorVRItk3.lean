/-
  Layer 8, the document's intake in memory; New, wrong.
-/
import Derived.Test.YtbejfgmdkmddnaaGreatDoorVRItk2
import Derived.Test.YtbejfgmdkmddnaaGreatDoorVRClk4
import Derived.Test.YtbejfgmdkmddnaaGreatDoorVRSort2
set_option maxRecDepth 100000
set_option maxHeartbeats 16000000
namespace Go.Proofs.YtbejfgmdkmddnaaGreatDoor
open Go.RowKit Go.Maps Go.Sort
theorem Kb{c:UInt8}: ∀{s:List UInt8}(k:Nat)(hk:k<s.length),s[k]=c→(∀j(hj:j<s.length),j<k→s[j]≠c)→Lib.index s [c]=k
 |[],k,hk,_,_=>by simp at hk
 |b::l,0,_,h,_=>by have hb:b=c:=h;subst hb;rw[Lib.index];simp[List.isPrefixOf]
 |b::l,k+1,hk,h,hn=>by
  have hb:b≠c:=hn 0 (by simp) (by omega);have hp:([c]:List UInt8).isPrefixOf (b::l)=false:=by simp[List.isPrefixOf,Ne.symm hb]
  have ih:=Kb (s:=l) k (by simpa using hk) (by simpa using h) (fun j hj hjk=>hn (j+1) (by simpa using hj) (by omega));rw[Lib.index,hp,ih];have:((k:Int)== -1)=false:=by rw[beq_eq_false_iff_ne];omega
  simp[this]
theorem FB{c:UInt8}: ∀{s:List UInt8},(∀j(hj:j<s.length),s[j]≠c)→Lib.index s [c]= -1
 |[],_=>by simp[Lib.index]
 |b::l,hn=>by
  have hb:b≠c:=hn 0 (by simp);have hp:([c]:List UInt8).isPrefixOf (b::l)=false:=by simp[List.isPrefixOf,Ne.symm hb]
  have ih:=FB (s:=l) (fun j hj=>hn (j+1) (by simpa using hj));rw[Lib.index,hp,ih];rfl
def bP(c:UInt8):List UInt8→List (List UInt8)|[]=>[[]]|x::r=>if x=c then[]::bP c r else(x::(bP c r).headD [])::(bP c r).tail
theorem wF{c:UInt8}: ∀{a:List UInt8},c∉a→bP c a=[a]|[],_=>rfl|x::a,h=>by simp only[List.mem_cons,not_or]at h;rw[bP,if_neg (Ne.symm h.1),wF h.2];rfl
theorem yB{c:UInt8}(b:List UInt8): ∀{a:List UInt8},c∉a→bP c (a++c::b)=a::bP c b|[],_=>by rw[List.nil_append,bP,if_pos rfl]|x::a,h=>by simp only[List.mem_cons,not_or]at h;rw[List.cons_append,bP,if_neg (Ne.symm h.1),yB b h.2];rfl
theorem tq(c:UInt8): ∀s:List UInt8,Lib.splitK [c] 0 (Lib.count s [c]) s=bP c s
 |[]=>by rw[Lib.count_miss (by simp[Lib.index])];rfl
 |b::l=>by
  have ih:=tq c l;by_cases h:b=c
  ·subst h;have hix:Lib.index (b::l) [b]=0:=by rw[Lib.index];simp[List.isPrefixOf]
   rw[Lib.count_cons_eq,Nat.add_comm,Lib.splitK,hix,bP,if_pos rfl,←ih];rfl
  ·have hp:([c]:List UInt8).isPrefixOf (b::l)=false:=by simp[List.isPrefixOf,Ne.symm h]
   have hix:Lib.index (b::l) [c]=if Lib.index l [c]== -1 then-1 else Lib.index l [c]+1:=by rw[Lib.index,hp];simp
   rw[Lib.count_cons_ne b c l h,bP,if_neg h,←ih];by_cases hm:Lib.index l [c]= -1;·rw[Lib.count_miss hm];rfl
   ·have hge:=Lib.index_ge l [c];obtain⟨j,hj⟩: ∃j:Nat,Lib.index l [c]=j:=⟨(Lib.index l [c]).toNat,by omega⟩;have hne:(Lib.index l [c]== -1)=false:=by rw[beq_eq_false_iff_ne];exact hm
    have hne2:(((j:Int)+1)== -1)=false:=by rw[beq_eq_false_iff_ne];omega
    have hne3:((j:Int)== -1)=false:=by rw[beq_eq_false_iff_ne];omega
    rw[Lib.count_hit (by simp) hj,Nat.add_comm,Lib.splitK,Lib.splitK,hix,hne,hj];simp only[Bool.false_eq_true,if_false,hne2,List.headD_cons,List.tail_cons,List.length_singleton,Nat.add_zero];rw[show((j:Int)+1).toNat=j+1 by omega,show((j:Int)).toNat=j by omega];rfl
theorem D7(s:List UInt8):fw s=if(gy s).isEmpty then[]else bP 44 (gy s):=by
 unfold fw;split;·rfl
 ·rw[Lib.splitB_data,←tq];try rfl
theorem rz(w:World)(l:List UInt8)(hm:l.length≤1000000000):Calls Tryz.prog 134 #[.string ⟨l.toArray⟩] w fun e w'=>e=.returned (.int .i64 (Lib.index l [59]))∧w=w':=by
 go_enter Tryz.func134,Tryz.ntmps134;go_wp2;go_loop[3](fun i=> ∃k:Nat,i=.int .i64 k∧k≤l.length∧Hid (∀j(hj:j<l.length),j<k→l[j]≠59))(fun i=>l.length-(intOf i).toNat);case atStart=>exact⟨0,rfl,Nat.zero_le _,fun j _ h=>by omega⟩
 case round=>
  obtain⟨k,rfl,hk,HK⟩:=hrel;by_cases hkn:k<l.length
  ·have g0:(⟨l.toArray⟩:ByteArray)[k]'(by simpa[ByteArray.size]using hkn)=l[k]:=rfl;by_cases h59:l[k]=59
   ·have HI:=qH (Kb k hkn h59 HK.o);have b1:((l[k].toNat:Int)==59)=true:=by rw[h59];rfl
    clear h59;generalize l[k]=x at*;go_wp2;go_ret;exact⟨aQ HI.o.symm,rfl⟩
   ·have HN:=qS (∀j(hj:j<l.length),j<k+1→l[j]≠59) (fun j hj hlt=>by
     by_cases e:j=k;·subst e;exact h59
     ·exact HK.o j hj (by omega));have b1:((l[k].toNat:Int)==59)=false:=by
     rw[beq_eq_false_iff_ne];intro e;exact h59 (UInt8.toNat_inj.1 (by
      have:l[k].toNat=59:=by omega
      rw[this];rfl))
    clear h59;generalize l[k]=x at*;go_wp2;go_round;case rel=>exact⟨k+1,by go_num,by omega,HN.o⟩
    case measure=>simp[intOf];omega
  ·have HI:=qH (FB (c:=59) (s:=l) (fun j hj=>HK.o j hj (by omega)));go_wp2;go_ret;exact⟨aQ HI.o.symm,rfl⟩
theorem Ho(w:World)(l:List UInt8)(hm:l.length≤1000000000):Calls Tryz.prog 135 #[.string ⟨l.toArray⟩] w fun e w'=>e=.returned (.string ⟨(Lib.cut l [59]).1.toArray⟩)∧w=w':=by
 have HC:=qS (Lib.cut l [59]=if 0≤Lib.index l [59]then(l.take (Lib.index l [59]).toNat,l.drop ((Lib.index l [59]).toNat+1),true)else(l,[],false)) (rfl);have hroom:=Lib.index_room l [59];go_enter Tryz.func135,Tryz.ntmps135;go_wp2_with fail;refine(rz w l hm).mono ?_;rintro r w1⟨rfl,rfl⟩;by_cases h0:0≤Lib.index l [59]
 ·obtain⟨k,hk⟩: ∃k:Nat,Lib.index l [59]=k:=⟨(Lib.index l [59]).toNat,by omega⟩;have hkl:=hroom h0;have HC':=qS ((Lib.cut l [59]).1=l.take k) (by rw[HC.o,if_pos h0,hk];rfl);rw[hk]at*;simp only[List.length_singleton]at hkl;have hkl':k<l.length:=by omega
  have hsl: ∀wx,(Instr.slice 9 (.string ⟨l.toArray⟩) none (some (.int .i64 (k:Int))) none).run Tryz.prog wx=.ok (.string ⟨(l.take k).toArray⟩) wx:=fun wx=>NM _ Tryz.underlying9 l k k rfl (by omega) wx;clear hk hroom HC hkl h0;go_wp2;go_ret;rw[HC'.o];first|exact⟨rfl,rfl⟩|(rw[sO];simp)
 ·have HC':=qS ((Lib.cut l [59]).1=l) (by rw[HC.o,if_neg h0]);clear hroom HC;go_wp2;go_ret;rw[HC'.o];exact⟨rfl,rfl⟩
theorem J3{c:UInt8}{s:List UInt8}{f k:Nat}(hk:k≤s.length)(h: ∀j(hj:j<s.length),f≤j→j<k→s[j]≠c):c∉(s.drop f).take (k-f):=by intro hc;obtain⟨i,hi,he⟩:=List.getElem_of_mem hc;rw[List.length_take,List.length_drop]at hi;rw[List.getElem_take,List.getElem_drop]at he;exact h (f+i) (by omega) (by omega) (by omega) he
theorem Ic{c:UInt8}{s:List UInt8}{f:Nat}(h: ∀j(hj:j<s.length),f≤j→j<s.length→s[j]≠c):bP c (s.drop f)=[(s.drop f).take (s.length-f)]:=by have e:(s.drop f).take (s.length-f)=s.drop f:=List.take_of_length_le (by simp);have:=J3 (Nat.le_refl _) h;rw[e]at this⊢;exact wF this
theorem Ib{c:UInt8}{s:List UInt8}{f k:Nat}(hf:f≤k)(hk:k<s.length)(hc:s[k]=c)(h: ∀j(hj:j<s.length),f≤j→j<k→s[j]≠c):bP c (s.drop f)=(s.drop f).take (k-f)::bP c (s.drop (k+1)):=by
 have e:s.drop f=(s.drop f).take (k-f)++c::s.drop (k+1):=by
  have e1:(s.drop f).drop (k-f)=s[k]::s.drop (k+1):=by rw[List.drop_drop,show f+(k-f)=k by omega];exact List.drop_eq_getElem_cons hk
  conv=>lhs;rw[←List.take_append_drop (k-f) (s.drop f),e1,hc]
 conv=>lhs;rw[e]
 exact yB _ (J3 (Nat.le_of_lt hk) h)
def KL(w:World)(s:List UInt8)(c:UInt8)(v f i:Value)(wr:World):Prop:= ∃(k f':Nat)(out:List (List UInt8)),i=.int .i64 k∧f=.int .i64 f'∧wr.ownsRow w.heap.size 9 1 v out.length (out.map encStr)∧Below w.heap.size w wr∧out.length≤k∧k≤s.length+1∧((k≤s.length∧f'≤k∧out++bP c (s.drop f')=bP c s∧ ∀j(hj:j<s.length),f'≤j→j<k→s[j]≠c)∨(k=s.length+1∧out=bP c s))
def pX(w:World)(ss:List (List UInt8))(e:Ending)(w':World):Prop:= ∃A c,e=.returned (.slice A ss.length c)∧Strs w' w'.heap.size A ss.length c ss∧Below w.heap.size w w'
theorem Hl(w:World)(s:List UInt8)(hs:s.length≤1000000000)(c:UInt8):Calls Tryz.prog 184 #[.string ⟨s.toArray⟩,.int .u8 c.toNat] w (pX w (bP c s)):=by
 obtain⟨i0,hi,hz0,hz1,hz2⟩:=info_parts xY;have HI:=qH hi;have HZ0:=qH hz0;have HZ1:=qH hz1;have HZ2:=qH hz2;clear hi hz0 hz1 hz2;have hsz:(⟨s.toArray⟩:ByteArray).size=s.length:=by simp[ByteArray.size]
 go_enter Tryz.func184,Tryz.ntmps184;go_wp2;go_loopw[5,6,7](fun v f i wr=>KL w s c v f i wr)(fun _ _ i _=>s.length+1-(intOf i).toNat);case atStart=>exact⟨0,0,[],rfl,rfl,World.ownsRow_lit w #[] 0 (Nat.le_refl _) (by simp[maxLen]) rfl,(Below.refl _ _).alloc (Nat.le_refl _) _,by simp,by omega,.inl ⟨by omega,by omega,by simp,fun j _ _ h=>by omega⟩⟩
 case round=>
  obtain⟨k,f,out,rfl,rfl,hown,hbel,hol,hks,hor⟩:=hrel;have HO:=qH hown;clear hown;have GM:=qH hor;clear hor;have hbs:=hbel.size;by_cases hkn:k≤s.length
  ·have t1:(k:Int)≤s.length:=by omega
   obtain⟨_,Xc,X3,hno⟩:k≤s.length∧f≤k∧out++bP c (s.drop f)=bP c s∧ ∀j(hj:j<s.length),f≤j→j<k→s[j]≠c:=by
    rcases GM.o with h|h;·exact h
    ·omega
   have KU:=qH X3;have xx:=qH hno;clear X3 hno GM;have hmid: ∀wx,(Instr.slice 9 (.string ⟨s.toArray⟩) (some (.int .i64 (f:Int))) (some (.int .i64 (k:Int))) none).run Tryz.prog wx=.ok (.string ⟨((s.drop f).take (k-f)).toArray⟩) wx:=fun wx=>Rx _ Tryz.underlying9 s f k f k rfl rfl Xc (by omega) wx;by_cases hke:k=s.length
   ·have HE:=qS (out++[(s.drop f).take (k-f)]=bP c s) (by rw[←KU.o,hke,Ic (fun j hj h1 h2=>xx.o j hj h1 (by omega))]);have b1:((k:Int)==(s.length:Int))=true:=by simp[hke]
    have HKK:=qH hke;clear hke;generalize(s.drop f).take (k-f)=pc at*;go_wp2_with(at_builtin;refine av (P:=Tryz.prog) rfl (.tmp 26) (.tmp 31) 40 rfl 9 i0 (.string ByteArray.empty) 1 16 Tryz.underlying40 HI.o HZ0.o HZ1.o HZ2.o rfl (by decide) w.heap.size _ out.length (out.map encStr) rfl ?c1 (wr.heap.size+1) _ _ _ [.string ⟨pc.toArray⟩] rfl ?c2 ?c3 ?c4 ?c5 ?c6 ?_);case c1=>exact World.ownsRow.alloc HO.o _
    case c2=>exact az.new wr #[.string ⟨pc.toArray⟩] _ (by unfold maxLen;omega) rfl
    case c3=>simp[Value.oneCell']
    case c4=>unfold maxLen;omega
    case c5=>omega
    case c6=>first|omega|(simp;omega)
    intro v2 w2 hown2 hg2 _;have hb2:Below w.heap.size w w2:=Below.grown (hbel.alloc hbs (.cells #[.string ⟨pc.toArray⟩] 9)) hg2 (by simp;omega) (fun j hj=>(HO.o.lt j hj).1);have HR:=qS (KL w s c v2 (.int .i64 ((k+1:Nat):Int)) (.int .i64 ((k+1:Nat):Int)) w2) (⟨k+1,k+1,out++[pc],rfl,rfl,by rw[List.map_append,List.length_append];exact hown2,hb2,by simp;omega,by omega,.inr ⟨by have:=HKK.o;omega,HE.o⟩⟩);clear hown2 hg2 hb2 hmid;go_wp2;go_roundw;case rel=>exact HR.o
    case measure=>simp[intOf];omega
   ·have X9:k<s.length:=by omega
    have g0:(⟨s.toArray⟩:ByteArray)[k]'(by simpa[ByteArray.size]using X9)=s[k]:=rfl;have b1:((k:Int)==(s.length:Int))=false:=by rw[beq_eq_false_iff_ne];omega
    by_cases hc:s[k]=c
    ·have HE:=qS (out++[(s.drop f).take (k-f)]++bP c (s.drop (k+1))=bP c s) (by rw[←KU.o,Ib Xc X9 hc xx.o];simp);have b2:((s[k].toNat:Int)==(c.toNat:Int))=true:=by simp[hc]
     clear hc hke;generalize(s.drop f).take (k-f)=pc at*;generalize s[k]=x at*;go_wp2_with(at_builtin;refine av (P:=Tryz.prog) rfl (.tmp 26) (.tmp 31) 40 rfl 9 i0 (.string ByteArray.empty) 1 16 Tryz.underlying40 HI.o HZ0.o HZ1.o HZ2.o rfl (by decide) w.heap.size _ out.length (out.map encStr) rfl ?c1 (wr.heap.size+1) _ _ _ [.string ⟨pc.toArray⟩] rfl ?c2 ?c3 ?c4 ?c5 ?c6 ?_);case c1=>exact World.ownsRow.alloc HO.o _
     case c2=>exact az.new wr #[.string ⟨pc.toArray⟩] _ (by unfold maxLen;omega) rfl
     case c3=>simp[Value.oneCell']
     case c4=>unfold maxLen;omega
     case c5=>omega
     case c6=>first|omega|(simp;omega)
     intro v2 w2 hown2 hg2 _;have hb2:Below w.heap.size w w2:=Below.grown (hbel.alloc hbs (.cells #[.string ⟨pc.toArray⟩] 9)) hg2 (by simp;omega) (fun j hj=>(HO.o.lt j hj).1);have HR:=qS (KL w s c v2 (.int .i64 ((k+1:Nat):Int)) (.int .i64 ((k+1:Nat):Int)) w2) (⟨k+1,k+1,out++[pc],rfl,rfl,by rw[List.map_append,List.length_append];exact hown2,hb2,by simp;omega,by omega,.inl ⟨by omega,Nat.le_refl _,HE.o,fun j _ h1 h2=>by omega⟩⟩);clear hown2 hg2 hb2 hmid;go_wp2;go_roundw;case rel=>exact HR.o
     case measure=>simp[intOf];omega
    ·have b2:((s[k].toNat:Int)==(c.toNat:Int))=false:=by rw[beq_eq_false_iff_ne];intro e;exact hc (UInt8.toNat_inj.1 (by omega))
     have HR:=qS (KL w s c u5 (.int .i64 (f:Int)) (.int .i64 ((k+1:Nat):Int)) wr) (⟨k+1,f,out,rfl,rfl,HO.o,hbel,by omega,by omega,.inl ⟨by omega,by omega,KU.o,fun j hj h1 h2=>by
      by_cases e:j=k;·subst e;exact hc
      ·exact xx.o j hj h1 (by omega)⟩⟩);clear hc hke hmid;generalize s[k]=x at*;go_wp2;go_roundw;case rel=>exact HR.o
     case measure=>simp[intOf];omega
  ·have t1: ¬(k:Int)≤s.length:=by omega
   have hout:out=bP c s:=by
    rcases GM.o with h|h;·exact absurd h.1 hkn
    ·exact h.2
   obtain⟨A3,c3,hv⟩:=ownsRow_form HO.o;have HR:=qS (pX w (bP c s) (.returned u5) wr) (⟨A3,c3,by rw[←hout,hv],by have:=HO.o;rw[hv]at this;rw[←hout];exact az.aI this,hbel⟩);clear hout hv GM;go_wp2;go_ret;exact HR.o
theorem NN{P:Program}(t:TypeId)(h:P.underlying t=some .string)(l:List UInt8)(i:Int)(a:Nat)(hi:i=(a:Int))(h2:a≤l.length)(w:World):(Instr.slice t (.string ⟨l.toArray⟩) (some (.int .i64 i)) none none).run P w=.ok (.string ⟨(l.drop a).toArray⟩) w:=by
 subst hi;rw[run_slice_string_from_if w t ⟨l.toArray⟩ .i64 a h,if_pos ⟨by omega,by simpa[ByteArray.size]using h2⟩];have:(⟨l.toArray⟩:ByteArray).size=l.length:=by simp[ByteArray.size]
 rw[this,sO];simp[List.take_of_length_le]
theorem Lj(w:World)(l:List UInt8)(hm:l.length≤1000000000):Calls Tryz.prog 136 #[.string ⟨l.toArray⟩] w (pX w (fw l)):=by
 have HC:=qS (Lib.cut l [59]=if 0≤Lib.index l [59]then(l.take (Lib.index l [59]).toNat,l.drop ((Lib.index l [59]).toNat+1),true)else(l,[],false)) (rfl);have HT:=qH (D7 l);have KT:=qS (gy l=(Lib.cut l [59]).2.1) (rfl);have hroom:=Lib.index_room l [59];have Wo:=qS (∀wx:World,Below w.heap.size w wx→pX w [] (.returned (.slice (some ⟨wx.heap.size,0,none⟩) 0 0)) (wx.alloc (.cells #[] 9))) (fun wx hbx=>⟨_,0,rfl,az.nil _ _ _ _ _ (by unfold maxLen;omega),hbx.alloc hbx.size _⟩);go_enter Tryz.func136,Tryz.ntmps136;go_wp2_with fail;refine(rz w l hm).mono ?_;rintro r w1⟨rfl,rfl⟩;by_cases h0:0≤Lib.index l [59]
 ·obtain⟨k,hk⟩: ∃k:Nat,Lib.index l [59]=k:=⟨(Lib.index l [59]).toNat,by omega⟩;have hkl:=hroom h0;have HR:=qS (gy l=l.drop (k+1)) (by rw[KT.o,HC.o,if_pos h0,hk];rfl);rw[hk]at*;simp only[List.length_singleton]at hkl;have hkl':k<l.length:=by omega
  by_cases hl:k+1=l.length
  ·have HE:=qS (fw l=[]) (by rw[HT.o,HR.o,List.drop_of_length_le (by omega)];rfl);have b1:((k:Int)==(l.length:Int)-1)=true:=by rw[beq_iff_eq];omega
   have b0: ¬(k:Int)<0:=by omega
   clear hk hroom HC hkl h0 hl HT HR KT;go_wp2;go_ret;rw[HE.o];exact Wo.o w (Below.refl _ _)
  ·have HE:=qS (fw l=bP 44 (l.drop (k+1))) (by rw[HT.o,HR.o,if_neg];rw[List.isEmpty_iff,List.drop_eq_nil_iff];omega);have b1:((k:Int)==(l.length:Int)-1)=false:=by rw[beq_eq_false_iff_ne];omega
   have b0: ¬(k:Int)<0:=by omega
   have hsl: ∀wx,(Instr.slice 9 (.string ⟨l.toArray⟩) (some (.int .i64 ((k:Int)+1))) none none).run Tryz.prog wx=.ok (.string ⟨(l.drop (k+1)).toArray⟩) wx:=fun wx=>NN _ Tryz.underlying9 l _ (k+1) (by omega) (by omega) wx;have hpl:(l.drop (k+1)).length≤1000000000:=by simp;omega
   clear hk hroom HC hkl h0 hl HT HR KT Wo;generalize l.drop (k+1)=pl at*;go_wp2_with fail;refine(Hl w pl hpl 44).mono ?_;rintro r w2⟨A,c,rfl,hst,hb⟩;have HP:=qS (pX w (bP 44 pl) (.returned (.slice A (bP 44 pl).length c)) w2) (⟨A,c,rfl,hst,hb⟩);clear hst hb;generalize bP 44 pl=ps at*;go_wp2;go_ret;rw[HE.o];exact HP.o
 ·have HE:=qS (fw l=[]) (by rw[HT.o,KT.o,HC.o,if_neg h0];rfl);have b0:Lib.index l [59]<0:=by omega
  clear hroom HC HT KT h0;generalize Lib.index l [59]=ix at*;go_wp2;go_ret;rw[HE.o];exact Wo.o w (Below.refl _ _)
theorem nL(w:World)(n lo hi:Int):Calls Tryz.prog 76 #[.int .i64 n,.int .i64 lo,.int .i64 hi] w fun e w'=>e=.returned (.bool (decide (lo≤n)&&decide (n≤hi)))∧w'=w:=by
 by_cases h:lo≤n;·go_enter Tryz.func76,Tryz.ntmps76;go_wp2;go_ret;exact⟨ae (by simp[h]),rfl⟩
 ·go_enter Tryz.func76,Tryz.ntmps76;go_wp2;go_ret;exact⟨ae (by simp;omega),rfl⟩
def YU(ts:List (List UInt8))(w2:World)(i:Value)(wr:World):Prop:= ∃k q:Nat,i=.int .i64 k∧k≤ts.length∧wr=w2.drewN q∧Hid (∀j,j<k→qG ts j=true)
theorem mR(w:World)(l:List UInt8)(hm:l.length≤1000000000):Calls Tryz.prog 75 #[.string ⟨l.toArray⟩] w fun e w'=>e=.returned (.bool (ag l))∧w'=w:=(rn02 w l hm).mono fun _ _ h=>⟨h.1,h.2.symm⟩
theorem yA(c:UInt8): ∀s:List UInt8,∀t∈bP c s,t.length≤s.length
 |[],t,ht=>by simp[bP]at ht;simp[ht]
 |x::r,t,ht=>by
  have ih:=yA c r;rw[bP]at ht;split at ht
  ·rcases List.mem_cons.1 ht with rfl|ht;·simp
   ·have:=ih t ht;simp;omega
  ·rcases List.mem_cons.1 ht with rfl|ht;·cases hp:bP c r with|nil=>simp|cons a b=>have:=ih a (by rw[hp];simp);simp;omega
   ·have:=ih t (List.mem_of_mem_tail ht);simp;omega
theorem Lc(s:List UInt8): ∀t∈fw s,t.length≤s.length:=fun t ht=>by
 rw[D7]at ht;split at ht;·simp at ht
 ·have:=yA 44 _ t ht;have:=sW s;omega
theorem Hq(w:World)(s:List UInt8)(hs:s.length≤1000000000):Calls Tryz.prog 77 #[.string ⟨s.toArray⟩] w (Says (bQ s) w):=by
 have mO:=qS (bQ s=((Lib.cut s [59]).2.2&&ag (Lib.cut s [59]).1&&decide ((fw s).length≤8)&&lW (fw s))) (rfl);have dS:=qS ((Lib.cut s [59]).2.2=decide (0≤Lib.index s [59])) (by unfold Lib.cut;split<;>simp[*]);have hcl:=wT s;have Jp:=qH (Lc s);go_enter Tryz.func77,Tryz.ntmps77;go_wp2_with fail;refine(rz w s hs).mono ?_;rintro r w1⟨rfl,rfl⟩;by_cases h0:0≤Lib.index s [59];case neg=>
  have HF:=qS (bQ s=false) (by rw[mO.o,dS.o,decide_eq_false h0];rfl);have b0:Lib.index s [59]<0:=by omega
  clear h0;generalize Lib.index s [59]=ix at*;go_wp2;go_ret;exact⟨ae HF.o.symm,Below.refl _ _⟩
 have b0: ¬Lib.index s [59]<0:=by omega
 have TJ:=qS (bQ s=(ag (Lib.cut s [59]).1&&decide ((fw s).length≤8)&&lW (fw s))) (by rw[mO.o,dS.o,decide_eq_true h0];simp);clear h0 mO dS;generalize Lib.index s [59]=ix at*;go_wp2_with fail;refine(Ho w s hs).mono ?_;rintro r w1⟨rfl,rfl⟩;generalize(Lib.cut s [59]).1=mk at*;go_wp2_with fail;refine(rn02 w mk (by omega)).mono ?_;rintro r w1⟨rfl,rfl⟩;generalize ag mk=nm at*;cases nm;·go_wp2;go_ret;exact⟨ae (by rw[TJ.o];rfl),Below.refl _ _⟩
 go_wp2_with fail;refine(Lj w s hs).mono ?_;rintro q w2⟨A,c,rfl,hst,hb2⟩;have HS:=qH hst;clear hst;generalize fw s=ts at*;have hcm:ts.length≤9223372036854775807:=by have h1:=az.cap HS.o;have h2:=az.max HS.o;unfold maxLen at h2;omega
 go_wp2;go_loopw[4](fun i wr=>YU ts w2 i wr)(fun i _=>ts.length-(intOf i).toNat);case atStart=>exact⟨0,0,rfl,Nat.zero_le _,rfl,fun j h=>by omega⟩
 case round=>
  obtain⟨k,q,rfl,hk,rfl,HK⟩:=hrel;have hbq:Below w.heap.size w (w2.drewN q):=below_drewN hb2 q;have KP:=qS (Strs (w2.drewN q) w2.heap.size A ts.length c ts) (HS.o.drewN q);have Ze:=qS (∀m,∃q',(w2.drewN q).drewN m=w2.drewN q') (fun m=>⟨_,World.drewN_drewN ..⟩);generalize w2.drewN q=wr at*;by_cases hkn:k<ts.length
  ·obtain⟨b,off,rfl,hb,hc⟩:=KP.o.at_ k hkn;have HB:=qS (qG ts k=(ag ts[k]&&(k==0||Op.bytesLess (ts.getD (k-1) []) ts[k]))) (by unfold qG;simp[List.getD,List.getElem?_eq_getElem hkn]);have xx:=qS (qG ts k=false→lW ts=false) (fun h=>by unfold lW;rw[List.all_eq_false];exact⟨k,by simpa using hkn,by simp[h]⟩);have qJ:=qS (qG ts k=true→ ∀j,j<k+1→qG ts j=true) (fun h j hj=>by
    by_cases e:j=k;·subst e;exact h
    ·exact HK.o j (by omega));have jG:=qS (0<k→wr.cell? ⟨b,off+(k-1),none⟩=some (.string ⟨(ts.getD (k-1) []).toArray⟩)) (fun h0=>by obtain⟨b',off',e',_,hc'⟩:=KP.o.at_ (k-1) (by omega);injection e' with e';injection e' with e1 e2;subst e1 e2;rw[hc'];simp[List.getD,List.getElem?_eq_getElem (show k-1<ts.length by omega)]);have htl:ts[k].length≤1000000000:=by have:=Jp.o _ (List.getElem_mem hkn);omega
   generalize ts.getD (k-1) []=p at*;have t1:(k:Int)<ts.length:=by omega
   generalize ts[k]=t at*;have HQ:=qS (∀wx,Calls Tryz.prog 75 #[.string ⟨t.toArray⟩] wx fun e w'=>e=.returned (.bool (ag t))∧w'=wx) (fun wx=>mR wx t htl);generalize ag t=nt at*;cases nt;·have HF:=qH (xx.o (by rw[HB.o];rfl));go_wp2;go_quiet((go_at_call 75;exact Calls.quiet_of_same (HQ.o _)));go_wp2;go_ret;exact⟨ae (by rw[TJ.o,HF.o];simp),below_drewN hbq _⟩
   by_cases k0:k=0
   ·subst k0;rw[Nat.add_zero]at hc;have HY:=qH (qJ.o (by rw[HB.o];rfl));go_wp2;go_quiet((go_at_call 75;exact Calls.quiet_of_same (HQ.o _)));go_wp2;go_roundw;case rel=>obtain⟨q',hq'⟩:=Ze.o nq;exact⟨1,q',by go_num,by omega,hq',HY.o⟩
    case measure=>simp[intOf];omega
   ·have hc1:=jG.o (by omega);have k1:(0:Int)<k:=by omega
    have ek:(k:Int)-1=((k-1:Nat):Int):=by omega
    have kd:decide (0<(k:Int))=true:=decide_eq_true k1;have kd':decide (0<k)=true:=decide_eq_true (by omega);have kn:0<k:=by omega
    have Rp:=qS (qG ts k=Op.bytesLess p t) (by rw[HB.o];simp[k0]);cases hbl:Op.bytesLess p t;·have HF:=qH (xx.o (Rp.o.trans hbl));go_wp2;go_quiet((go_at_call 75;exact Calls.quiet_of_same (HQ.o _)));go_wp2;go_ret;exact⟨ae (by rw[TJ.o,HF.o];simp),below_drewN hbq _⟩
    ·have HY:=qH (qJ.o (Rp.o.trans hbl));go_wp2;go_quiet((go_at_call 75;exact Calls.quiet_of_same (HQ.o _)));go_wp2;go_roundw;case rel=>obtain⟨q',hq'⟩:=Ze.o nq;exact⟨k+1,q',by go_num,by omega,hq',HY.o⟩
     case measure=>simp[intOf];omega
  ·have HT:=qS (lW ts=true) (by
    unfold lW;rw[List.all_eq_true];intro j hj;exact HK.o j (by
     have:j<ts.length:=by simpa using hj
     omega));go_wp2;go_ret;exact⟨ae (by rw[TJ.o,HT.o];simp;omega),hbq⟩
theorem Lp(w:World)(e:Ev)(hs:e.small)(hh:nk e=true):Calls Tryz.prog 31 #[e.agg] w (Says (bA e) w):=by
 obtain⟨s1,s2,s3,s4⟩:=hs;have zA:=qH hh;have hh':(ag e.src&&decide (1≤e.num)&&decide (e.num≤1099511627776)&&decide (0≤e.at_)&&decide (e.at_≤1099511627776))=true:=hh;simp only[Bool.and_eq_true,decide_eq_true_eq]at hh';obtain⟨⟨⟨⟨hns,h1⟩,h2⟩,h3⟩,h4⟩:=hh';have Wn:=qH hns;have NC:=qS ((decide (1≤e.num)&&decide (e.num≤1099511627776))=true) (by simp[h1,h2]);have HIA:=qS ((decide (0≤e.at_)&&decide (e.at_≤1099511627776))=true) (by simp[h3,h4]);clear hns hh h1 h2 h3 h4;unfold Ev.agg;go_enter Tryz.func31,Tryz.ntmps31;have hb:Below w.heap.size w (w.alloc (ai e)):=(Below.refl _ _).alloc (Nat.le_refl _) _;obtain⟨f0,f1,f2,f3,f4,f5,f6,f7⟩:=dO.new w e;go_wp2_with fail;refine(mR _ e.src s1).mono ?_;rintro r w1⟨rfl,rfl⟩;rw[Wn.o];generalize w.alloc (ai e)=w1 at*;generalize hke:e.kind=kd at*;have GQ:=qH hke;clear hke;go_wp2_with fail;refine(nL w1 e.num 1 1099511627776).mono ?_;rintro r w2⟨rfl,hw2⟩;rw[hw2,NC.o];clear hw2;go_wp2_with fail;refine(nL w1 e.at_ 0 1099511627776).mono ?_;rintro r w2⟨rfl,hw2⟩;rw[hw2,HIA.o];clear hw2;go_wp2;go_quiet(fail);have hbq:Below w.heap.size w (w1.drewN nq):=below_drewN hb nq;have g3:(w1.drewN nq).cell? ⟨w.heap.size,3,none⟩=_:=f3;have g4:(w1.drewN nq).cell? ⟨w.heap.size,4,none⟩=_:=f4;have g5:(w1.drewN nq).cell? ⟨w.heap.size,5,none⟩=_:=f5;have g6:(w1.drewN nq).cell? ⟨w.heap.size,6,none⟩=_:=f6;have g7:(w1.drewN nq).cell? ⟨w.heap.size,7,none⟩=_:=f7;clear f0 f1 f2 f3 f4 f5 f6 f7 hb;generalize w1.drewN nq=w2 at*;by_cases hx:kd<0∨14<kd;·have HT:=qS (bA e=false) (by unfold bA iy;rw[GQ.o];rw[if_neg (by omega),if_neg (by omega),if_neg (by omega),if_neg (by omega),if_neg (by omega),if_neg (by omega),if_neg (by omega),if_neg (by omega),if_neg (by omega),if_neg (by omega),if_neg (by omega),if_neg (by omega),if_neg (by omega),if_neg (by omega),if_neg (by omega),Bool.and_false]);have hq: ∀j:Int,0≤j→j≤14→(kd==j)=false:=fun j _ _=>beq_eq_false_iff_ne.2 (by omega);have k0:=hq 0 (by decide) (by decide);have k1:=hq 1 (by decide) (by decide);have k2:=hq 2 (by decide) (by decide);have k3:=hq 3 (by decide) (by decide);have k4:=hq 4 (by decide) (by decide);have k5:=hq 5 (by decide) (by decide);have k6:=hq 6 (by decide) (by decide);have k7:=hq 7 (by decide) (by decide);have k8:=hq 8 (by decide) (by decide);have k9:=hq 9 (by decide) (by decide);have k10:=hq 10 (by decide) (by decide);have k11:=hq 11 (by decide) (by decide);have k12:=hq 12 (by decide) (by decide);have k13:=hq 13 (by decide) (by decide);have k14:=hq 14 (by decide) (by decide);clear hq hx;go_wp2;go_ret;exact⟨ae HT.o.symm,hbq⟩
 rcases(show(kd=0∨kd=1∨kd=2∨kd=3∨kd=5∨kd=6)∨(kd=4)∨(kd=7∨kd=8∨kd=9∨kd=10)∨(kd=11)∨(kd=12)∨(kd=13)∨(kd=14)by omega)with hk|hk|hk|hk|hk|hk|hk
 ·have HT:=qS (bA e=(ag e.per&&ag e.item&&e.text.isEmpty&&(e.val==0))) (by unfold bA iy;rw[zA.o,GQ.o];rcases hk with rfl|rfl|rfl|rfl|rfl|rfl<;>(simp;cases ag e.per<;>cases ag e.item<;>cases ag e.text<;>cases bQ e.text<;>cases e.per.isEmpty<;>cases e.item.isEmpty<;>cases e.text.isEmpty<;>simp));clear hx;rcases hk with rfl|rfl|rfl|rfl|rfl|rfl;all_goals
   go_wp2_with fail;refine(mR w2 e.per s2).mono ?_;rintro r w3⟨rfl,hw3⟩;rw[hw3];clear hw3;go_wp2_with fail;refine(mR w2 e.item s3).mono ?_;rintro r w3⟨rfl,hw3⟩;rw[hw3];clear hw3;generalize ag e.per=b0 at*;generalize ag e.item=b1 at*;generalize e.text.isEmpty=b2 at*;generalize(e.val==0)=b3 at*;cases b0;·go_wp2;go_ret;exact⟨ae (by rw[HT.o];rfl),hbq⟩
   cases b1;·go_wp2;go_ret;exact⟨ae (by rw[HT.o];rfl),hbq⟩
   cases b2;·go_wp2;go_ret;exact⟨ae (by rw[HT.o];rfl),hbq⟩
   cases b3;·go_wp2;go_ret;exact⟨ae (by rw[HT.o];rfl),hbq⟩
   go_wp2;go_ret;exact⟨ae (by rw[HT.o];rfl),hbq⟩
 ·have HT:=qS (bA e=(ag e.per&&ag e.item&&e.text.isEmpty&&(decide (1≤e.val)&&decide (e.val≤5)))) (by unfold bA iy;rw[zA.o,GQ.o];rw[hk];simp;cases ag e.per<;>cases ag e.item<;>cases ag e.text<;>cases bQ e.text<;>cases e.per.isEmpty<;>cases e.item.isEmpty<;>cases e.text.isEmpty<;>simp);subst hk;clear hx;go_wp2_with fail;refine(mR w2 e.per s2).mono ?_;rintro r w3⟨rfl,hw3⟩;rw[hw3];clear hw3;go_wp2_with fail;refine(mR w2 e.item s3).mono ?_;rintro r w3⟨rfl,hw3⟩;rw[hw3];clear hw3;go_wp2_with fail;refine(nL w2 e.val 1 5).mono ?_;rintro r w3⟨rfl,hw3⟩;rw[hw3];clear hw3;generalize ag e.per=b0 at*;generalize ag e.item=b1 at*;generalize e.text.isEmpty=b2 at*;generalize(decide (1≤e.val)&&decide (e.val≤5))=b3 at*;cases b0;·go_wp2;go_ret;exact⟨ae (by rw[HT.o];rfl),hbq⟩
  cases b1;·go_wp2;go_ret;exact⟨ae (by rw[HT.o];rfl),hbq⟩
  cases b2;·go_wp2;go_ret;exact⟨ae (by rw[HT.o];rfl),hbq⟩
  cases b3;·go_wp2;go_ret;exact⟨ae (by rw[HT.o];rfl),hbq⟩
  go_wp2;go_ret;exact⟨ae (by rw[HT.o];rfl),hbq⟩
 ·have HT:=qS (bA e=(ag e.per&&e.item.isEmpty&&ag e.text&&(e.val==0))) (by unfold bA iy;rw[zA.o,GQ.o];rcases hk with rfl|rfl|rfl|rfl<;>(simp;cases ag e.per<;>cases ag e.item<;>cases ag e.text<;>cases bQ e.text<;>cases e.per.isEmpty<;>cases e.item.isEmpty<;>cases e.text.isEmpty<;>simp));clear hx;rcases hk with rfl|rfl|rfl|rfl;all_goals
   go_wp2_with fail;refine(mR w2 e.per s2).mono ?_;rintro r w3⟨rfl,hw3⟩;rw[hw3];clear hw3;go_wp2_with fail;refine(mR w2 e.text s4).mono ?_;rintro r w3⟨rfl,hw3⟩;rw[hw3];clear hw3;generalize ag e.per=b0 at*;generalize e.item.isEmpty=b1 at*;generalize ag e.text=b2 at*;generalize(e.val==0)=b3 at*;cases b0;·go_wp2;go_ret;exact⟨ae (by rw[HT.o];rfl),hbq⟩
   cases b1;·go_wp2;go_ret;exact⟨ae (by rw[HT.o];rfl),hbq⟩
   cases b2;·go_wp2;go_ret;exact⟨ae (by rw[HT.o];rfl),hbq⟩
   cases b3;·go_wp2;go_ret;exact⟨ae (by rw[HT.o];rfl),hbq⟩
   go_wp2;go_ret;exact⟨ae (by rw[HT.o];rfl),hbq⟩
 ·have HT:=qS (bA e=(e.per.isEmpty&&ag e.item&&bQ e.text&&(decide (0≤e.val)&&decide (e.val≤1048576)))) (by unfold bA iy;rw[zA.o,GQ.o];rw[hk];simp;cases ag e.per<;>cases ag e.item<;>cases ag e.text<;>cases bQ e.text<;>cases e.per.isEmpty<;>cases e.item.isEmpty<;>cases e.text.isEmpty<;>simp);subst hk;clear hx;go_wp2_with fail;refine(mR w2 e.item s3).mono ?_;rintro r w3⟨rfl,hw3⟩;rw[hw3];clear hw3;go_wp2_with fail;refine(nL w2 e.val 0 1048576).mono ?_;rintro r w3⟨rfl,hw3⟩;rw[hw3];clear hw3;go_wp2_with fail;refine(Hq w2 e.text s4).mono ?_;rintro r w3⟨rfl,hb3⟩;have hbq3:Below w.heap.size w w3:=hbq.trans (hb3.mono hbq.size);clear hbq hb3;generalize e.per.isEmpty=b0 at*;generalize ag e.item=b1 at*;generalize bQ e.text=b2 at*;generalize(decide (0≤e.val)&&decide (e.val≤1048576))=b3 at*;clear g3 g4 g5 g6 g7;cases b0;·go_wp2;go_ret;exact⟨ae (by rw[HT.o];rfl),hbq3⟩
  cases b1;·go_wp2;go_ret;exact⟨ae (by rw[HT.o];rfl),hbq3⟩
  cases b2;·go_wp2;go_ret;exact⟨ae (by rw[HT.o];rfl),hbq3⟩
  cases b3;·go_wp2;go_ret;exact⟨ae (by rw[HT.o];rfl),hbq3⟩
  go_wp2;go_ret;exact⟨ae (by rw[HT.o];rfl),hbq3⟩
 ·have HT:=qS (bA e=(e.per.isEmpty&&ag e.item&&e.text.isEmpty&&(decide (0≤e.val)&&decide (e.val≤1048576)))) (by unfold bA iy;rw[zA.o,GQ.o];rw[hk];simp;cases ag e.per<;>cases ag e.item<;>cases ag e.text<;>cases bQ e.text<;>cases e.per.isEmpty<;>cases e.item.isEmpty<;>cases e.text.isEmpty<;>simp);subst hk;clear hx;go_wp2_with fail;refine(mR w2 e.item s3).mono ?_;rintro r w3⟨rfl,hw3⟩;rw[hw3];clear hw3;go_wp2_with fail;refine(nL w2 e.val 0 1048576).mono ?_;rintro r w3⟨rfl,hw3⟩;rw[hw3];clear hw3;generalize e.per.isEmpty=b0 at*;generalize ag e.item=b1 at*;generalize e.text.isEmpty=b2 at*;generalize(decide (0≤e.val)&&decide (e.val≤1048576))=b3 at*;cases b0;·go_wp2;go_ret;exact⟨ae (by rw[HT.o];rfl),hbq⟩
  cases b1;·go_wp2;go_ret;exact⟨ae (by rw[HT.o];rfl),hbq⟩
  cases b2;·go_wp2;go_ret;exact⟨ae (by rw[HT.o];rfl),hbq⟩
  cases b3;·go_wp2;go_ret;exact⟨ae (by rw[HT.o];rfl),hbq⟩
  go_wp2;go_ret;exact⟨ae (by rw[HT.o];rfl),hbq⟩
 ·have HT:=qS (bA e=(e.per.isEmpty&&ag e.item&&e.text.isEmpty&&(e.val==0))) (by unfold bA iy;rw[zA.o,GQ.o];rw[hk];simp;cases ag e.per<;>cases ag e.item<;>cases ag e.text<;>cases bQ e.text<;>cases e.per.isEmpty<;>cases e.item.isEmpty<;>cases e.text.isEmpty<;>simp);subst hk;clear hx;go_wp2_with fail;refine(mR w2 e.item s3).mono ?_;rintro r w3⟨rfl,hw3⟩;rw[hw3];clear hw3;generalize e.per.isEmpty=b0 at*;generalize ag e.item=b1 at*;generalize e.text.isEmpty=b2 at*;generalize(e.val==0)=b3 at*;cases b0;·go_wp2;go_ret;exact⟨ae (by rw[HT.o];rfl),hbq⟩
  cases b1;·go_wp2;go_ret;exact⟨ae (by rw[HT.o];rfl),hbq⟩
  cases b2;·go_wp2;go_ret;exact⟨ae (by rw[HT.o];rfl),hbq⟩
  cases b3;·go_wp2;go_ret;exact⟨ae (by rw[HT.o];rfl),hbq⟩
  go_wp2;go_ret;exact⟨ae (by rw[HT.o];rfl),hbq⟩
 ·have HT:=qS (bA e=(ag e.per&&e.item.isEmpty&&e.text.isEmpty&&(e.val==0))) (by unfold bA iy;rw[zA.o,GQ.o];rw[hk];simp;cases ag e.per<;>cases ag e.item<;>cases ag e.text<;>cases bQ e.text<;>cases e.per.isEmpty<;>cases e.item.isEmpty<;>cases e.text.isEmpty<;>simp);subst hk;clear hx;go_wp2_with fail;refine(mR w2 e.per s2).mono ?_;rintro r w3⟨rfl,hw3⟩;rw[hw3];clear hw3;generalize ag e.per=b0 at*;generalize e.item.isEmpty=b1 at*;generalize e.text.isEmpty=b2 at*;generalize(e.val==0)=b3 at*;cases b0;·go_wp2;go_ret;exact⟨ae (by rw[HT.o];rfl),hbq⟩
  cases b1;·go_wp2;go_ret;exact⟨ae (by rw[HT.o];rfl),hbq⟩
  cases b2;·go_wp2;go_ret;exact⟨ae (by rw[HT.o];rfl),hbq⟩
  cases b3;·go_wp2;go_ret;exact⟨ae (by rw[HT.o];rfl),hbq⟩
  go_wp2;go_ret;exact⟨ae (by rw[HT.o];rfl),hbq⟩
theorem Lr(w:World)(e:Ev)(hs:e.small)(hh:nk e=false):Calls Tryz.prog 31 #[e.agg] w (Says (bA e) w):=by
 obtain⟨s1,s2,s3,s4⟩:=hs;have HT:=qS (bA e=false) (by unfold bA;rw[hh];rfl);have HH:=qS ((ag e.src&&(decide (1≤e.num)&&decide (e.num≤1099511627776))&&(decide (0≤e.at_)&&decide (e.at_≤1099511627776)))=false) (by rw[←hh];unfold nk;simp only[Bool.and_assoc]);clear hh;unfold Ev.agg;go_enter Tryz.func31,Tryz.ntmps31;have hb:Below w.heap.size w (w.alloc (ai e)):=(Below.refl _ _).alloc (Nat.le_refl _) _;obtain⟨f0,f1,f2,f3,f4,f5,f6,f7⟩:=dO.new w e;go_wp2_with fail;refine(mR _ e.src s1).mono ?_;rintro r w1⟨rfl,rfl⟩;generalize w.alloc (ai e)=w1 at*;generalize ag e.src=b0 at*;cases b0;·go_wp2;go_ret;exact⟨ae HT.o.symm,hb⟩
 go_wp2_with fail;refine(nL w1 e.num 1 1099511627776).mono ?_;rintro r w2⟨rfl,hw2⟩;rw[hw2];clear hw2;generalize(decide (1≤e.num)&&decide (e.num≤1099511627776))=b1 at*;cases b1;·go_wp2;go_ret;exact⟨ae HT.o.symm,hb⟩
 go_wp2_with fail;refine(nL w1 e.at_ 0 1099511627776).mono ?_;rintro r w2⟨rfl,hw2⟩;rw[hw2];clear hw2;generalize(decide (0≤e.at_)&&decide (e.at_≤1099511627776))=b2 at*;cases b2;·go_wp2;go_ret;exact⟨ae HT.o.symm,hb⟩
 ·have:=HH.o;simp at this
theorem N8(w:World)(e:Ev)(hs:e.small):Calls Tryz.prog 31 #[e.agg] w (Says (bA e) w):=by
 cases hh:nk e;·exact Lr w e hs hh
 ·exact Lp w e hs hh
abbrev xy(bc:Nat)(vh vt vl vg:Value):Obj:=.cells #[.pointer (some ⟨bc,0,none⟩),vh,vt,vl,vg] 63
structure pY(w:World)(S:Nat→Prop)(N:Nat)(x:ay)(vh vt vl vg:Value):Prop where
 had: ∃A c R,vh=.slice A R.length c∧p9 w S A R.length c R∧bF R=x.had.map (fun p=>(p.1,nums p.2))∧R.length≤N∧ ∀q∈R,q.2.1.length≤N
 taken: ∃A c,vt=.slice A x.taken.length c∧fV w w.heap.size A x.taken.length c x.taken∧lF S A x.taken.length
 late: ∃A c,vl=.slice A x.late.length c∧fV w w.heap.size A x.late.length c x.late∧lF S A x.late.length
 gone: ∃A c gs,vg=.slice A gs.length c∧Strs w w.heap.size A gs.length c gs∧lF S A gs.length∧fI gs x.gone∧gs.length≤N
structure dA(w:World)(bm bc:Nat)(S:Nat→Prop)(N:Nat)(x:ay):Prop where
 blk: ∃vh vt vl vg,w.heap[bm]?=some (xy bc vh vt vl vg)∧pY w S N x vh vt vl vg
 au:iO w bc S N x.au
 ns: ¬S bm
 ne:bm≠bc
 ok:dJ x.had
 tl:x.taken.length≤N
 ll:x.late.length≤N
theorem ku.stay{w w':World}{S F:Nat→Prop}{v:Value}{l:List Int}(h:ku w S v l)(hk:ak F w w')(hF: ∀b,F b→ ¬S b):ku w' S v l:=by obtain⟨A,c,hv,hc,hvw⟩:=h;exact⟨A,c,hv,az.stay hc hvw hk.size (fun b off hb hlt=>hk.cell (p:=⟨b,off,none⟩) hlt (fun hf=>hF _ hf hb)),hvw⟩
theorem p9.stay{w w':World}{S F:Nat→Prop}{A:Option Addr}{n c:Nat}{R:List gu}(h:p9 w S A n c R)(hk:ak F w w')(hF: ∀b,F b→ ¬S b):p9 w' S A n c R:=⟨az.stay h.cel h.vw hk.size (fun b off hb hlt=>hk.cell (p:=⟨b,off,none⟩) hlt (fun hf=>hF _ hf hb)),fun q hq=>(h.row q hq).stay hk hF,h.vw⟩
theorem pY.stay{w w':World}{S F:Nat→Prop}{N:Nat}{x:ay}{vh vt vl vg:Value}(h:pY w S N x vh vt vl vg)(hk:ak F w w')(hF: ∀b,F b→ ¬S b):pY w' S N x vh vt vl vg:=by
 have key: ∀{size:Nat}{A:Option Addr}{n c:Nat}{xs:List Value},az w w.heap.size size A n c xs→lF S A n→az w' w'.heap.size size A n c xs:=fun hc hvw=>az.stay hc hvw hk.size (fun b off hb hlt=>hk.cell (p:=⟨b,off,none⟩) hlt (fun hf=>hF _ hf hb));refine⟨?_,?_,?_,?_⟩;·obtain⟨A,c,R,h1,h2,h3⟩:=h.had;exact⟨A,c,R,h1,h2.stay hk hF,h3⟩
 ·obtain⟨A,c,h1,h2,h3⟩:=h.taken;exact⟨A,c,h1,key h2 h3,h3⟩
 ·obtain⟨A,c,h1,h2,h3⟩:=h.late;exact⟨A,c,h1,key h2 h3,h3⟩
 ·obtain⟨A,c,gs,h1,h2,h3,h4⟩:=h.gone;exact⟨A,c,gs,h1,key h2 h3,h3,h4⟩
theorem dA.stay{w w':World}{bm bc N:Nat}{S F:Nat→Prop}{x:ay}(h:dA w bm bc S N x)(hk:ak F w w')(hF: ∀b,F b→ ¬S b∧b≠bm∧b≠bc):dA w' bm bc S N x:=by obtain⟨vh,vt,vl,vg,hb,hp⟩:=h.blk;have hlt:bm<w.heap.size:=(Array.getElem?_eq_some_iff.1 hb).1;exact⟨⟨vh,vt,vl,vg,(hk.block bm hlt (fun hf=>(hF _ hf).2.1 rfl)).trans hb,hp.stay hk (fun b hf=>(hF b hf).1)⟩,h.au.stay hk (fun b hf=>⟨(hF b hf).1,(hF b hf).2.2⟩),h.ns,h.ne,h.ok,h.tl,h.ll⟩
theorem dA.up{w w':World}{bm bc N:Nat}{S:Nat→Prop}{x:ay}(h:dA w bm bc S N x)(hb:Below w.heap.size w w'):dA w' bm bc S N x:=h.stay (F:=fun _=>False) (ak.of_below hb) (fun _ h=>h.elim)
def Gq(w:World)(x:ay)(e:Ending)(w':World):Prop:= ∃bm bc,e=.returned (.pointer (some ⟨bm,0,none⟩))∧dA w' bm bc (fun _=>False) 0 x∧w.heap.size≤bm∧w.heap.size≤bc∧Below w.heap.size w w'
theorem ED(w:World)(aa idle:Int):Calls Tryz.prog 116 #[.int .i64 aa,.int .i64 idle] w fun e w'=>e=.returned (.pointer (some ⟨w.heap.size,0,none⟩))∧w'=w.alloc (qf (aZ.new aa idle) (.slice none 0 0)):=by have HN:=qS (aZ.new aa idle=⟨df aa,df idle,0,-1,[]⟩) (rfl);go_enter Tryz.func116,Tryz.ntmps116;go_wp2_with fail;refine(yP w aa).mono ?_;rintro r w1⟨rfl,hw1⟩;rw[hw1];clear hw1;go_wp2_with fail;refine(yP w idle).mono ?_;rintro r w1⟨rfl,hw1⟩;rw[hw1];clear hw1;go_wp2;go_ret;exact⟨rfl,rfl⟩
theorem Es(w:World)(aa idle:Int):Calls Tryz.prog 57 #[.int .i64 aa,.int .i64 idle] w (Gq w (ay.new aa idle)):=by
 go_enter Tryz.func57,Tryz.ntmps57;go_wp2_with fail;refine(ED w aa idle).mono ?_;rintro r w1⟨rfl,rfl⟩;have HR:=qS (Gq w (ay.new aa idle) (.returned (.pointer (some ⟨w.heap.size+1,0,none⟩))) ((w.alloc (qf (aZ.new aa idle) (.slice none 0 0))).alloc (xy w.heap.size (.slice none 0 0) (.slice none 0 0) (.slice none 0 0) (.slice none 0 0)))) (by
  have hb1:Below w.heap.size w (w.alloc (qf (aZ.new aa idle) (.slice none 0 0))):=(Below.refl _ _).alloc (Nat.le_refl _) _;have hb2:=hb1.alloc hb1.size (xy w.heap.size (.slice none 0 0) (.slice none 0 0) (.slice none 0 0) (.slice none 0 0));have hm:(0:Nat)≤maxLen:=Nat.zero_le _;have hs1:(w.alloc (qf (aZ.new aa idle) (.slice none 0 0))).heap.size=w.heap.size+1:=by simp
  have hv: ∀(S:Nat→Prop),lF S none 0:=fun S a ha=>by cases ha
  refine⟨w.heap.size+1,w.heap.size,rfl,⟨⟨_,_,_,_,by rw[←hs1];exact heap_alloc_new _ _,⟨⟨none,0,[],rfl,⟨az.nil _ _ _ _ _ hm,fun q hq=>(by cases hq),hv _⟩,rfl,Nat.le_refl _,fun q hq=>(by cases hq)⟩,⟨none,0,rfl,az.nil _ _ _ _ _ hm,hv _⟩,⟨none,0,rfl,az.nil _ _ _ _ _ hm,hv _⟩,⟨none,0,[],rfl,az.nil _ _ _ _ _ hm,hv _,⟨List.Pairwise.nil,fun y=>by simp[ay.new]⟩,Nat.le_refl _⟩⟩⟩,⟨⟨none,0,0,?_,az.nil _ _ _ _ _ hm,hv _⟩,fun h=>h,fun b h=>h.elim,fD.new aa idle,Nat.le_refl _⟩,fun h=>h,by omega,dJ.nil,Nat.le_refl _,Nat.le_refl _⟩,by omega,Nat.le_refl _,hb2⟩;exact(Below.heap_alloc _ _ w.heap.size (by rw[hs1];omega)).trans (heap_alloc_new w _));go_wp2;go_ret;exact HR.o
end Go.Proofs.YtbejfgmdkmddnaaGreatDoor
