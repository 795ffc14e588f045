/-
  Layer 8, the document's intake in memory; New, wrong.
-/
import Derived.Test.YtbejfgmdkmddnaaGreatDoorQHadPlain
import Derived.Test.YtbejfgmdkmddnaaGreatDoorQEvMay
import Derived.Test.YtbejfgmdkmddnaaGreatDoorQRItk2
import Derived.Test.YtbejfgmdkmddnaaGreatDoorQRHad4
import Derived.Test.YtbejfgmdkmddnaaGreatDoorQRClk4
import Derived.Test.YtbejfgmdkmddnaaGreatDoorQRSort2
set_option maxRecDepth 100000
set_option maxHeartbeats 16000000
namespace Go.Proofs.YtbejfgmdkmddnaaGreatDoor
open Go.RowKit Go.Maps Go.Sort
theorem idx_hit{c:UInt8}: ∀{s:List UInt8}(k:Nat)(hk:k<s.length),s[k]=c→(∀j(hj:j<s.length),j<k→s[j]≠c)→Lib.index s [c]=k
 |[],k,hk,_,_=>by simp at hk
 |b::l,0,_,h,_=>by have hb:b=c:=h;subst hb;rw[Lib.index];simp[List.isPrefixOf]
 |b::l,k+1,hk,h,hn=>by
  have hb:b≠c:=hn 0 (by simp) (by omega);have hp:([c]:List UInt8).isPrefixOf (b::l)=false:=by simp[List.isPrefixOf,Ne.symm hb]
  have ih:=idx_hit (s:=l) k (by simpa using hk) (by simpa using h) (fun j hj hjk=>hn (j+1) (by simpa using hj) (by omega));rw[Lib.index,hp,ih];have:((k:Int)== -1)=false:=by rw[beq_eq_false_iff_ne];omega
  simp[this]
theorem idx_miss{c:UInt8}: ∀{s:List UInt8},(∀j(hj:j<s.length),s[j]≠c)→Lib.index s [c]= -1
 |[],_=>by simp[Lib.index]
 |b::l,hn=>by
  have hb:b≠c:=hn 0 (by simp);have hp:([c]:List UInt8).isPrefixOf (b::l)=false:=by simp[List.isPrefixOf,Ne.symm hb]
  have ih:=idx_miss (s:=l) (fun j hj=>hn (j+1) (by simpa using hj));rw[Lib.index,hp,ih];rfl
def partsL(c:UInt8):List UInt8→List (List UInt8)|[]=>[[]]|x::r=>if x=c then[]::partsL c r else(x::(partsL c r).headD [])::(partsL c r).tail
theorem partsL_miss{c:UInt8}: ∀{a:List UInt8},c∉a→partsL c a=[a]|[],_=>rfl|x::a,h=>by simp only[List.mem_cons,not_or]at h;rw[partsL,if_neg (Ne.symm h.1),partsL_miss h.2];rfl
theorem partsL_hit{c:UInt8}(b:List UInt8): ∀{a:List UInt8},c∉a→partsL c (a++c::b)=a::partsL c b|[],_=>by rw[List.nil_append,partsL,if_pos rfl]|x::a,h=>by simp only[List.mem_cons,not_or]at h;rw[List.cons_append,partsL,if_neg (Ne.symm h.1),partsL_hit b h.2];rfl
theorem partsL_split(c:UInt8): ∀s:List UInt8,Lib.splitK [c] 0 (Lib.count s [c]) s=partsL c s
 |[]=>by rw[Lib.count_miss (by simp[Lib.index])];rfl
 |b::l=>by
  have ih:=partsL_split c l;by_cases h:b=c
  ·subst h;have hix:Lib.index (b::l) [b]=0:=by rw[Lib.index];simp[List.isPrefixOf]
   rw[Lib.count_cons_eq,Nat.add_comm,Lib.splitK,hix,partsL,if_pos rfl,←ih];rfl
  ·have hp:([c]:List UInt8).isPrefixOf (b::l)=false:=by simp[List.isPrefixOf,Ne.symm h]
   have hix:Lib.index (b::l) [c]=if Lib.index l [c]== -1 then-1 else Lib.index l [c]+1:=by rw[Lib.index,hp];simp
   rw[Lib.count_cons_ne b c l h,partsL,if_neg h,←ih];by_cases hm:Lib.index l [c]= -1;·rw[Lib.count_miss hm];rfl
   ·have hge:=Lib.index_ge l [c];obtain⟨j,hj⟩: ∃j:Nat,Lib.index l [c]=j:=⟨(Lib.index l [c]).toNat,by omega⟩;have hne:(Lib.index l [c]== -1)=false:=by rw[beq_eq_false_iff_ne];exact hm
    have hne2:(((j:Int)+1)== -1)=false:=by rw[beq_eq_false_iff_ne];omega
    have hne3:((j:Int)== -1)=false:=by rw[beq_eq_false_iff_ne];omega
    rw[Lib.count_hit (by simp) hj,Nat.add_comm,Lib.splitK,Lib.splitK,hix,hne,hj];simp only[Bool.false_eq_true,if_false,hne2,List.headD_cons,List.tail_cons,List.length_singleton,Nat.add_zero];rw[show((j:Int)+1).toNat=j+1 by omega,show((j:Int)).toNat=j by omega];rfl
theorem tagsL_eq(s:List UInt8):tagsL s=if(restL s).isEmpty then[]else partsL 44 (restL s):=by
 unfold tagsL;split;·rfl
 ·rw[Lib.splitB_data,←partsL_split];try rfl
theorem rplace_any(w:World)(l:List UInt8)(hm:l.length≤1000000000):Calls Tryz.prog 134 #[.string ⟨l.toArray⟩] w fun e w'=>e=.returned (.int .i64 (Lib.index l [59]))∧w=w':=by
 go_enter Tryz.func134,Tryz.ntmps134;go_wp2;go_loop[3](fun i=> ∃k:Nat,i=.int .i64 k∧k≤l.length∧Hid (∀j(hj:j<l.length),j<k→l[j]≠59))(fun i=>l.length-(intOf i).toNat);case atStart=>exact⟨0,rfl,Nat.zero_le _,fun j _ h=>by omega⟩
 case round=>
  obtain⟨k,rfl,hk,HK⟩:=hrel;by_cases hkn:k<l.length
  ·have g0:(⟨l.toArray⟩:ByteArray)[k]'(by simpa[ByteArray.size]using hkn)=l[k]:=rfl;by_cases h59:l[k]=59
   ·have HI:=qH (idx_hit k hkn h59 HK.out);have b1:((l[k].toNat:Int)==59)=true:=by rw[h59];rfl
    clear h59;generalize l[k]=x at*;go_wp2;go_ret;exact⟨ret_int HI.out.symm,rfl⟩
   ·have HN:=qH (show∀j(hj:j<l.length),j<k+1→l[j]≠59 from fun j hj hlt=>by
     by_cases e:j=k;·subst e;exact h59
     ·exact HK.out j hj (by omega));have b1:((l[k].toNat:Int)==59)=false:=by
     rw[beq_eq_false_iff_ne];intro e;exact h59 (UInt8.toNat_inj.1 (by
      have:l[k].toNat=59:=by omega
      rw[this];rfl))
    clear h59;generalize l[k]=x at*;go_wp2;go_round;case rel=>exact⟨k+1,by go_num,by omega,HN.out⟩
    case measure=>simp[intOf];omega
  ·have HI:=qH (idx_miss (c:=59) (s:=l) (fun j hj=>HK.out j hj (by omega)));go_wp2;go_ret;exact⟨ret_int HI.out.symm,rfl⟩
theorem rmaker_any(w:World)(l:List UInt8)(hm:l.length≤1000000000):Calls Tryz.prog 135 #[.string ⟨l.toArray⟩] w fun e w'=>e=.returned (.string ⟨(Lib.cut l [59]).1.toArray⟩)∧w=w':=by
 have HC:=qH (show Lib.cut l [59]=if 0≤Lib.index l [59]then(l.take (Lib.index l [59]).toNat,l.drop ((Lib.index l [59]).toNat+1),true)else(l,[],false)from rfl);have hroom:=Lib.index_room l [59];go_enter Tryz.func135,Tryz.ntmps135;go_wp2_with fail;refine(rplace_any w l hm).mono ?_;rintro r w1⟨rfl,rfl⟩;by_cases h0:0≤Lib.index l [59]
 ·obtain⟨k,hk⟩: ∃k:Nat,Lib.index l [59]=k:=⟨(Lib.index l [59]).toNat,by omega⟩;have hkl:=hroom h0;have HC':=qH (show(Lib.cut l [59]).1=l.take k by rw[HC.out,if_pos h0,hk];rfl);rw[hk]at*;simp only[List.length_singleton]at hkl;have hkl':k<l.length:=by omega
  have hsl: ∀wx,(Instr.slice 9 (.string ⟨l.toArray⟩) none (some (.int .i64 (k:Int))) none).run Tryz.prog wx=.ok (.string ⟨(l.take k).toArray⟩) wx:=fun wx=>str_to _ Tryz.underlying9 l k k rfl (by omega) wx;clear hk hroom HC hkl h0;go_wp2;go_ret;rw[HC'.out];first|exact⟨rfl,rfl⟩|(rw[str_cut];simp)
 ·have HC':=qH (show(Lib.cut l [59]).1=l by rw[HC.out,if_neg h0]);clear hroom HC;go_wp2;go_ret;rw[HC'.out];exact⟨rfl,rfl⟩
theorem mid_not{c:UInt8}{s:List UInt8}{f k:Nat}(hk:k≤s.length)(h: ∀j(hj:j<s.length),f≤j→j<k→s[j]≠c):c∉(s.drop f).take (k-f):=by intro hc;obtain⟨i,hi,he⟩:=List.getElem_of_mem hc;rw[List.length_take,List.length_drop]at hi;rw[List.getElem_take,List.getElem_drop]at he;exact h (f+i) (by omega) (by omega) (by omega) he
theorem parts_last{c:UInt8}{s:List UInt8}{f:Nat}(h: ∀j(hj:j<s.length),f≤j→j<s.length→s[j]≠c):partsL c (s.drop f)=[(s.drop f).take (s.length-f)]:=by have e:(s.drop f).take (s.length-f)=s.drop f:=List.take_of_length_le (by simp);have:=mid_not (Nat.le_refl _) h;rw[e]at this⊢;exact partsL_miss this
theorem parts_next{c:UInt8}{s:List UInt8}{f k:Nat}(hf:f≤k)(hk:k<s.length)(hc:s[k]=c)(h: ∀j(hj:j<s.length),f≤j→j<k→s[j]≠c):partsL c (s.drop f)=(s.drop f).take (k-f)::partsL c (s.drop (k+1)):=by
 have e:s.drop f=(s.drop f).take (k-f)++c::s.drop (k+1):=by
  have e1:(s.drop f).drop (k-f)=s[k]::s.drop (k+1):=by rw[List.drop_drop,show f+(k-f)=k by omega];exact List.drop_eq_getElem_cons hk
  conv=>lhs;rw[←List.take_append_drop (k-f) (s.drop f),e1,hc]
 conv=>lhs;rw[e]
 exact partsL_hit _ (mid_not (Nat.le_of_lt hk) h)
def PtRel(w:World)(s:List UInt8)(c:UInt8)(v f i:Value)(wr:World):Prop:= ∃(k f':Nat)(out:List (List UInt8)),i=.int .i64 k∧f=.int .i64 f'∧wr.ownsRow w.heap.size 9 1 v out.length (out.map encStr)∧Below w.heap.size w wr∧out.length≤k∧k≤s.length+1∧((k≤s.length∧f'≤k∧out++partsL c (s.drop f')=partsL c s∧ ∀j(hj:j<s.length),f'≤j→j<k→s[j]≠c)∨(k=s.length+1∧out=partsL c s))
def StrsPost(w:World)(ss:List (List UInt8))(e:Ending)(w':World):Prop:= ∃A c,e=.returned (.slice A ss.length c)∧Strs w' w'.heap.size A ss.length c ss∧Below w.heap.size w w'
theorem rparts_any(w:World)(s:List UInt8)(hs:s.length≤1000000000)(c:UInt8):Calls Tryz.prog 184 #[.string ⟨s.toArray⟩,.int .u8 c.toNat] w (StrsPost w (partsL c s)):=by
 obtain⟨i0,hi,hz0,hz1,hz2⟩:=info_parts str_info;have HI:=qH hi;have HZ0:=qH hz0;have HZ1:=qH hz1;have HZ2:=qH hz2;clear hi hz0 hz1 hz2;have hsz:(⟨s.toArray⟩:ByteArray).size=s.length:=by simp[ByteArray.size]
 go_enter Tryz.func184,Tryz.ntmps184;go_wp2;go_loopw[5,6,7](fun v f i wr=>PtRel w s c v f i wr)(fun _ _ i _=>s.length+1-(intOf i).toNat);case atStart=>exact⟨0,0,[],rfl,rfl,World.ownsRow_lit w #[] 0 (Nat.le_refl _) (by simp[maxLen]) rfl,(Below.refl _ _).alloc (Nat.le_refl _) _,by simp,by omega,.inl ⟨by omega,by omega,by simp,fun j _ _ h=>by omega⟩⟩
 case round=>
  obtain⟨k,f,out,rfl,rfl,hown,hbel,hol,hks,hor⟩:=hrel;have HO:=qH hown;clear hown;have HOR:=qH hor;clear hor;have hbs:=hbel.size;by_cases hkn:k≤s.length
  ·have t1:(k:Int)≤s.length:=by omega
   obtain⟨_,hfk,hpp,hno⟩:k≤s.length∧f≤k∧out++partsL c (s.drop f)=partsL c s∧ ∀j(hj:j<s.length),f≤j→j<k→s[j]≠c:=by
    rcases HOR.out with h|h;·exact h
    ·omega
   have HPP:=qH hpp;have HNO:=qH hno;clear hpp hno HOR;have hmid: ∀wx,(Instr.slice 9 (.string ⟨s.toArray⟩) (some (.int .i64 (f:Int))) (some (.int .i64 (k:Int))) none).run Tryz.prog wx=.ok (.string ⟨((s.drop f).take (k-f)).toArray⟩) wx:=fun wx=>str_mid _ Tryz.underlying9 s f k f k rfl rfl hfk (by omega) wx;by_cases hke:k=s.length
   ·have HE:=qH (show out++[(s.drop f).take (k-f)]=partsL c s by rw[←HPP.out,hke,parts_last (fun j hj h1 h2=>HNO.out j hj h1 (by omega))]);have b1:((k:Int)==(s.length:Int))=true:=by simp[hke]
    have HKK:=qH hke;clear hke;generalize(s.drop f).take (k-f)=pc at*;go_wp2_with(at_builtin;refine wpList_app (P:=Tryz.prog) rfl (.tmp 26) (.tmp 31) 40 rfl 9 i0 (.string ByteArray.empty) 1 16 Tryz.underlying40 HI.out HZ0.out HZ1.out HZ2.out rfl (by decide) w.heap.size _ out.length (out.map encStr) rfl ?c1 (wr.heap.size+1) _ _ _ [.string ⟨pc.toArray⟩] rfl ?c2 ?c3 ?c4 ?c5 ?c6 ?_);case c1=>exact World.ownsRow.alloc HO.out _
    case c2=>exact Cel.new wr #[.string ⟨pc.toArray⟩] _ (by unfold maxLen;omega) rfl
    case c3=>simp[Value.oneCell']
    case c4=>unfold maxLen;omega
    case c5=>omega
    case c6=>first|omega|(simp;omega)
    intro v2 w2 hown2 hg2 _;have hb2:Below w.heap.size w w2:=Below.grown (hbel.alloc hbs (.cells #[.string ⟨pc.toArray⟩] 9)) hg2 (by simp;omega) (fun j hj=>(HO.out.lt j hj).1);have HR:=qH (show PtRel w s c v2 (.int .i64 ((k+1:Nat):Int)) (.int .i64 ((k+1:Nat):Int)) w2 from⟨k+1,k+1,out++[pc],rfl,rfl,by rw[List.map_append,List.length_append];exact hown2,hb2,by simp;omega,by omega,.inr ⟨by have:=HKK.out;omega,HE.out⟩⟩);clear hown2 hg2 hb2 hmid;go_wp2;go_roundw;case rel=>exact HR.out
    case measure=>simp[intOf];omega
   ·have hklt:k<s.length:=by omega
    have g0:(⟨s.toArray⟩:ByteArray)[k]'(by simpa[ByteArray.size]using hklt)=s[k]:=rfl;have b1:((k:Int)==(s.length:Int))=false:=by rw[beq_eq_false_iff_ne];omega
    by_cases hc:s[k]=c
    ·have HE:=qH (show out++[(s.drop f).take (k-f)]++partsL c (s.drop (k+1))=partsL c s by rw[←HPP.out,parts_next hfk hklt hc HNO.out];simp);have b2:((s[k].toNat:Int)==(c.toNat:Int))=true:=by simp[hc]
     clear hc hke;generalize(s.drop f).take (k-f)=pc at*;generalize s[k]=x at*;go_wp2_with(at_builtin;refine wpList_app (P:=Tryz.prog) rfl (.tmp 26) (.tmp 31) 40 rfl 9 i0 (.string ByteArray.empty) 1 16 Tryz.underlying40 HI.out HZ0.out HZ1.out HZ2.out rfl (by decide) w.heap.size _ out.length (out.map encStr) rfl ?c1 (wr.heap.size+1) _ _ _ [.string ⟨pc.toArray⟩] rfl ?c2 ?c3 ?c4 ?c5 ?c6 ?_);case c1=>exact World.ownsRow.alloc HO.out _
     case c2=>exact Cel.new wr #[.string ⟨pc.toArray⟩] _ (by unfold maxLen;omega) rfl
     case c3=>simp[Value.oneCell']
     case c4=>unfold maxLen;omega
     case c5=>omega
     case c6=>first|omega|(simp;omega)
     intro v2 w2 hown2 hg2 _;have hb2:Below w.heap.size w w2:=Below.grown (hbel.alloc hbs (.cells #[.string ⟨pc.toArray⟩] 9)) hg2 (by simp;omega) (fun j hj=>(HO.out.lt j hj).1);have HR:=qH (show PtRel w s c v2 (.int .i64 ((k+1:Nat):Int)) (.int .i64 ((k+1:Nat):Int)) w2 from⟨k+1,k+1,out++[pc],rfl,rfl,by rw[List.map_append,List.length_append];exact hown2,hb2,by simp;omega,by omega,.inl ⟨by omega,Nat.le_refl _,HE.out,fun j _ h1 h2=>by omega⟩⟩);clear hown2 hg2 hb2 hmid;go_wp2;go_roundw;case rel=>exact HR.out
     case measure=>simp[intOf];omega
    ·have b2:((s[k].toNat:Int)==(c.toNat:Int))=false:=by rw[beq_eq_false_iff_ne];intro e;exact hc (UInt8.toNat_inj.1 (by omega))
     have HR:=qH (show PtRel w s c u5 (.int .i64 (f:Int)) (.int .i64 ((k+1:Nat):Int)) wr from⟨k+1,f,out,rfl,rfl,HO.out,hbel,by omega,by omega,.inl ⟨by omega,by omega,HPP.out,fun j hj h1 h2=>by
      by_cases e:j=k;·subst e;exact hc
      ·exact HNO.out j hj h1 (by omega)⟩⟩);clear hc hke hmid;generalize s[k]=x at*;go_wp2;go_roundw;case rel=>exact HR.out
     case measure=>simp[intOf];omega
  ·have t1: ¬(k:Int)≤s.length:=by omega
   have hout:out=partsL c s:=by
    rcases HOR.out with h|h;·exact absurd h.1 hkn
    ·exact h.2
   obtain⟨A3,c3,hv⟩:=ownsRow_form HO.out;have HR:=qH (show StrsPost w (partsL c s) (.returned u5) wr from⟨A3,c3,by rw[←hout,hv],by have:=HO.out;rw[hv]at this;rw[←hout];exact Cel.of_own this,hbel⟩);clear hout hv HOR;go_wp2;go_ret;exact HR.out
theorem str_from{P:Program}(t:TypeId)(h:P.underlying t=some .string)(l:List UInt8)(i:Int)(a:Nat)(hi:i=(a:Int))(h2:a≤l.length)(w:World):(Instr.slice t (.string ⟨l.toArray⟩) (some (.int .i64 i)) none none).run P w=.ok (.string ⟨(l.drop a).toArray⟩) w:=by
 subst hi;rw[run_slice_string_from_if w t ⟨l.toArray⟩ .i64 a h,if_pos ⟨by omega,by simpa[ByteArray.size]using h2⟩];have:(⟨l.toArray⟩:ByteArray).size=l.length:=by simp[ByteArray.size]
 rw[this,str_cut];simp[List.take_of_length_le]
theorem rtags_any(w:World)(l:List UInt8)(hm:l.length≤1000000000):Calls Tryz.prog 136 #[.string ⟨l.toArray⟩] w (StrsPost w (tagsL l)):=by
 have HC:=qH (show Lib.cut l [59]=if 0≤Lib.index l [59]then(l.take (Lib.index l [59]).toNat,l.drop ((Lib.index l [59]).toNat+1),true)else(l,[],false)from rfl);have HT:=qH (tagsL_eq l);have HRL:=qH (show restL l=(Lib.cut l [59]).2.1 from rfl);have hroom:=Lib.index_room l [59];have HNIL:=qH (show∀wx:World,Below w.heap.size w wx→StrsPost w [] (.returned (.slice (some ⟨wx.heap.size,0,none⟩) 0 0)) (wx.alloc (.cells #[] 9))from fun wx hbx=>⟨_,0,rfl,Cel.nil _ _ _ _ _ (by unfold maxLen;omega),hbx.alloc hbx.size _⟩);go_enter Tryz.func136,Tryz.ntmps136;go_wp2_with fail;refine(rplace_any w l hm).mono ?_;rintro r w1⟨rfl,rfl⟩;by_cases h0:0≤Lib.index l [59]
 ·obtain⟨k,hk⟩: ∃k:Nat,Lib.index l [59]=k:=⟨(Lib.index l [59]).toNat,by omega⟩;have hkl:=hroom h0;have HR:=qH (show restL l=l.drop (k+1)by rw[HRL.out,HC.out,if_pos h0,hk];rfl);rw[hk]at*;simp only[List.length_singleton]at hkl;have hkl':k<l.length:=by omega
  by_cases hl:k+1=l.length
  ·have HE:=qH (show tagsL l=[]by rw[HT.out,HR.out,List.drop_of_length_le (by omega)];rfl);have b1:((k:Int)==(l.length:Int)-1)=true:=by rw[beq_iff_eq];omega
   have b0: ¬(k:Int)<0:=by omega
   clear hk hroom HC hkl h0 hl HT HR HRL;go_wp2;go_ret;rw[HE.out];exact HNIL.out w (Below.refl _ _)
  ·have HE:=qH (show tagsL l=partsL 44 (l.drop (k+1))by rw[HT.out,HR.out,if_neg];rw[List.isEmpty_iff,List.drop_eq_nil_iff];omega);have b1:((k:Int)==(l.length:Int)-1)=false:=by rw[beq_eq_false_iff_ne];omega
   have b0: ¬(k:Int)<0:=by omega
   have hsl: ∀wx,(Instr.slice 9 (.string ⟨l.toArray⟩) (some (.int .i64 ((k:Int)+1))) none none).run Tryz.prog wx=.ok (.string ⟨(l.drop (k+1)).toArray⟩) wx:=fun wx=>str_from _ Tryz.underlying9 l _ (k+1) (by omega) (by omega) wx;have hpl:(l.drop (k+1)).length≤1000000000:=by simp;omega
   clear hk hroom HC hkl h0 hl HT HR HRL HNIL;generalize l.drop (k+1)=pl at*;go_wp2_with fail;refine(rparts_any w pl hpl 44).mono ?_;rintro r w2⟨A,c,rfl,hst,hb⟩;have HP:=qH (show StrsPost w (partsL 44 pl) (.returned (.slice A (partsL 44 pl).length c)) w2 from⟨A,c,rfl,hst,hb⟩);clear hst hb;generalize partsL 44 pl=ps at*;go_wp2;go_ret;rw[HE.out];exact HP.out
 ·have HE:=qH (show tagsL l=[]by rw[HT.out,HRL.out,HC.out,if_neg h0];rfl);have b0:Lib.index l [59]<0:=by omega
  clear hroom HC HT HRL h0;generalize Lib.index l [59]=ix at*;go_wp2;go_ret;rw[HE.out];exact HNIL.out w (Below.refl _ _)
theorem rin_any(w:World)(n lo hi:Int):Calls Tryz.prog 76 #[.int .i64 n,.int .i64 lo,.int .i64 hi] w fun e w'=>e=.returned (.bool (decide (lo≤n)&&decide (n≤hi)))∧w'=w:=by
 by_cases h:lo≤n;·go_enter Tryz.func76,Tryz.ntmps76;go_wp2;go_ret;exact⟨ret_bool (by simp[h]),rfl⟩
 ·go_enter Tryz.func76,Tryz.ntmps76;go_wp2;go_ret;exact⟨ret_bool (by simp;omega),rfl⟩
def LbRel(ts:List (List UInt8))(w2:World)(i:Value)(wr:World):Prop:= ∃k q:Nat,i=.int .i64 k∧k≤ts.length∧wr=w2.drewN q∧Hid (∀j,j<k→tagB ts j=true)
theorem rn02q(w:World)(l:List UInt8)(hm:l.length≤1000000000):Calls Tryz.prog 75 #[.string ⟨l.toArray⟩] w fun e w'=>e=.returned (.bool (nameB l))∧w'=w:=(rn02 w l hm).mono fun _ _ h=>⟨h.1,h.2.symm⟩
theorem partsL_len(c:UInt8): ∀s:List UInt8,∀t∈partsL c s,t.length≤s.length
 |[],t,ht=>by simp[partsL]at ht;simp[ht]
 |x::r,t,ht=>by
  have ih:=partsL_len c r;rw[partsL]at ht;split at ht
  ·rcases List.mem_cons.1 ht with rfl|ht;·simp
   ·have:=ih t ht;simp;omega
  ·rcases List.mem_cons.1 ht with rfl|ht;·cases hp:partsL c r with|nil=>simp|cons a b=>have:=ih a (by rw[hp];simp);simp;omega
   ·have:=ih t (List.mem_of_mem_tail ht);simp;omega
theorem tagsL_len(s:List UInt8): ∀t∈tagsL s,t.length≤s.length:=fun t ht=>by
 rw[tagsL_eq]at ht;split at ht;·simp at ht
 ·have:=partsL_len 44 _ t ht;have:=restL_length s;omega
theorem rlabel_any(w:World)(s:List UInt8)(hs:s.length≤1000000000):Calls Tryz.prog 77 #[.string ⟨s.toArray⟩] w (Says (listingB s) w):=by
 have HLB:=qH (show listingB s=((Lib.cut s [59]).2.2&&nameB (Lib.cut s [59]).1&&decide ((tagsL s).length≤8)&&tagsB (tagsL s))from rfl);have HC2:=qH (show(Lib.cut s [59]).2.2=decide (0≤Lib.index s [59])by unfold Lib.cut;split<;>simp[*]);have hcl:=cut1_length s;have HTL:=qH (tagsL_len s);go_enter Tryz.func77,Tryz.ntmps77;go_wp2_with fail;refine(rplace_any w s hs).mono ?_;rintro r w1⟨rfl,rfl⟩;by_cases h0:0≤Lib.index s [59];case neg=>
  have HF:=qH (show listingB s=false by rw[HLB.out,HC2.out,decide_eq_false h0];rfl);have b0:Lib.index s [59]<0:=by omega
  clear h0;generalize Lib.index s [59]=ix at*;go_wp2;go_ret;exact⟨ret_bool HF.out.symm,Below.refl _ _⟩
 have b0: ¬Lib.index s [59]<0:=by omega
 have HLB2:=qH (show listingB s=(nameB (Lib.cut s [59]).1&&decide ((tagsL s).length≤8)&&tagsB (tagsL s))by rw[HLB.out,HC2.out,decide_eq_true h0];simp);clear h0 HLB HC2;generalize Lib.index s [59]=ix at*;go_wp2_with fail;refine(rmaker_any w s hs).mono ?_;rintro r w1⟨rfl,rfl⟩;generalize(Lib.cut s [59]).1=mk at*;go_wp2_with fail;refine(rn02 w mk (by omega)).mono ?_;rintro r w1⟨rfl,rfl⟩;generalize nameB mk=nm at*;cases nm;·go_wp2;go_ret;exact⟨ret_bool (by rw[HLB2.out];rfl),Below.refl _ _⟩
 go_wp2_with fail;refine(rtags_any w s hs).mono ?_;rintro q w2⟨A,c,rfl,hst,hb2⟩;have HS:=qH hst;clear hst;generalize tagsL s=ts at*;have hcm:ts.length≤9223372036854775807:=by have h1:=Cel.cap HS.out;have h2:=Cel.max HS.out;unfold maxLen at h2;omega
 go_wp2;go_loopw[4](fun i wr=>LbRel ts w2 i wr)(fun i _=>ts.length-(intOf i).toNat);case atStart=>exact⟨0,0,rfl,Nat.zero_le _,rfl,fun j h=>by omega⟩
 case round=>
  obtain⟨k,q,rfl,hk,rfl,HK⟩:=hrel;have hbq:Below w.heap.size w (w2.drewN q):=below_drewN hb2 q;have HSQ:=qH (show Strs (w2.drewN q) w2.heap.size A ts.length c ts from HS.out.drewN q);have HQQ:=qH (show∀m,∃q',(w2.drewN q).drewN m=w2.drewN q' from fun m=>⟨_,World.drewN_drewN ..⟩);generalize w2.drewN q=wr at*;by_cases hkn:k<ts.length
  ·obtain⟨b,off,rfl,hb,hc⟩:=HSQ.out.at_ k hkn;have HB:=qH (show tagB ts k=(nameB ts[k]&&(k==0||Op.bytesLess (ts.getD (k-1) []) ts[k]))by unfold tagB;simp[List.getD,List.getElem?_eq_getElem hkn]);have HNO:=qH (show tagB ts k=false→tagsB ts=false from fun h=>by unfold tagsB;rw[List.all_eq_false];exact⟨k,by simpa using hkn,by simp[h]⟩);have HYES:=qH (show tagB ts k=true→ ∀j,j<k+1→tagB ts j=true from fun h j hj=>by
    by_cases e:j=k;·subst e;exact h
    ·exact HK.out j (by omega));have HC1:=qH (show 0<k→wr.cell? ⟨b,off+(k-1),none⟩=some (.string ⟨(ts.getD (k-1) []).toArray⟩)from fun h0=>by obtain⟨b',off',e',_,hc'⟩:=HSQ.out.at_ (k-1) (by omega);injection e' with e';injection e' with e1 e2;subst e1 e2;rw[hc'];simp[List.getD,List.getElem?_eq_getElem (show k-1<ts.length by omega)]);have htl:ts[k].length≤1000000000:=by have:=HTL.out _ (List.getElem_mem hkn);omega
   generalize ts.getD (k-1) []=p at*;have t1:(k:Int)<ts.length:=by omega
   generalize ts[k]=t at*;have HQ:=qH (show∀wx,Calls Tryz.prog 75 #[.string ⟨t.toArray⟩] wx fun e w'=>e=.returned (.bool (nameB t))∧w'=wx from fun wx=>rn02q wx t htl);generalize nameB t=nt at*;cases nt;·have HF:=qH (HNO.out (by rw[HB.out];rfl));go_wp2;go_quiet((go_at_call 75;exact Calls.quiet_of_same (HQ.out _)));go_wp2;go_ret;exact⟨ret_bool (by rw[HLB2.out,HF.out];simp),below_drewN hbq _⟩
   by_cases k0:k=0
   ·subst k0;rw[Nat.add_zero]at hc;have HY:=qH (HYES.out (by rw[HB.out];rfl));go_wp2;go_quiet((go_at_call 75;exact Calls.quiet_of_same (HQ.out _)));go_wp2;go_roundw;case rel=>obtain⟨q',hq'⟩:=HQQ.out nq;exact⟨1,q',by go_num,by omega,hq',HY.out⟩
    case measure=>simp[intOf];omega
   ·have hc1:=HC1.out (by omega);have k1:(0:Int)<k:=by omega
    have ek:(k:Int)-1=((k-1:Nat):Int):=by omega
    have kd:decide (0<(k:Int))=true:=decide_eq_true k1;have kd':decide (0<k)=true:=decide_eq_true (by omega);have kn:0<k:=by omega
    have HBL:=qH (show tagB ts k=Op.bytesLess p t by rw[HB.out];simp[k0]);cases hbl:Op.bytesLess p t;·have HF:=qH (HNO.out (HBL.out.trans hbl));go_wp2;go_quiet((go_at_call 75;exact Calls.quiet_of_same (HQ.out _)));go_wp2;go_ret;exact⟨ret_bool (by rw[HLB2.out,HF.out];simp),below_drewN hbq _⟩
    ·have HY:=qH (HYES.out (HBL.out.trans hbl));go_wp2;go_quiet((go_at_call 75;exact Calls.quiet_of_same (HQ.out _)));go_wp2;go_roundw;case rel=>obtain⟨q',hq'⟩:=HQQ.out nq;exact⟨k+1,q',by go_num,by omega,hq',HY.out⟩
     case measure=>simp[intOf];omega
  ·have HT:=qH (show tagsB ts=true by
    unfold tagsB;rw[List.all_eq_true];intro j hj;exact HK.out j (by
     have:j<ts.length:=by simpa using hj
     omega));go_wp2;go_ret;exact⟨ret_bool (by rw[HLB2.out,HT.out];simp;omega),hbq⟩
theorem rmay_tail(w:World)(e:Ev)(hs:e.small)(hh:headB e=true):Calls Tryz.prog 31 #[e.agg] w (Says (mayB e) w):=by
 obtain⟨s1,s2,s3,s4⟩:=hs;have HHD:=qH hh;have hh':(nameB e.src&&decide (1≤e.num)&&decide (e.num≤1099511627776)&&decide (0≤e.at_)&&decide (e.at_≤1099511627776))=true:=hh;simp only[Bool.and_eq_true,decide_eq_true_eq]at hh';obtain⟨⟨⟨⟨hns,h1⟩,h2⟩,h3⟩,h4⟩:=hh';have HNS:=qH hns;have HIN:=qH (show(decide (1≤e.num)&&decide (e.num≤1099511627776))=true by simp[h1,h2]);have HIA:=qH (show(decide (0≤e.at_)&&decide (e.at_≤1099511627776))=true by simp[h3,h4]);clear hns hh h1 h2 h3 h4;unfold Ev.agg;go_enter Tryz.func31,Tryz.ntmps31;have hb:Below w.heap.size w (w.alloc (evObj e)):=(Below.refl _ _).alloc (Nat.le_refl _) _;obtain⟨f0,f1,f2,f3,f4,f5,f6,f7⟩:=EvIn.new w e;go_wp2_with fail;refine(rn02q _ e.src s1).mono ?_;rintro r w1⟨rfl,rfl⟩;rw[HNS.out];generalize w.alloc (evObj e)=w1 at*;generalize hke:e.kind=kd at*;have HKE:=qH hke;clear hke;go_wp2_with fail;refine(rin_any w1 e.num 1 1099511627776).mono ?_;rintro r w2⟨rfl,hw2⟩;rw[hw2,HIN.out];clear hw2;go_wp2_with fail;refine(rin_any w1 e.at_ 0 1099511627776).mono ?_;rintro r w2⟨rfl,hw2⟩;rw[hw2,HIA.out];clear hw2;go_wp2;go_quiet(fail);have hbq:Below w.heap.size w (w1.drewN nq):=below_drewN hb nq;have g3:(w1.drewN nq).cell? ⟨w.heap.size,3,none⟩=_:=f3;have g4:(w1.drewN nq).cell? ⟨w.heap.size,4,none⟩=_:=f4;have g5:(w1.drewN nq).cell? ⟨w.heap.size,5,none⟩=_:=f5;have g6:(w1.drewN nq).cell? ⟨w.heap.size,6,none⟩=_:=f6;have g7:(w1.drewN nq).cell? ⟨w.heap.size,7,none⟩=_:=f7;clear f0 f1 f2 f3 f4 f5 f6 f7 hb;generalize w1.drewN nq=w2 at*;by_cases hx:kd<0∨14<kd;·have HT:=qH (show mayB e=false by unfold mayB tailB;rw[HKE.out];rw[if_neg (by omega),if_neg (by omega),if_neg (by omega),if_neg (by omega),if_neg (by omega),if_neg (by omega),if_neg (by omega),if_neg (by omega),if_neg (by omega),if_neg (by omega),if_neg (by omega),if_neg (by omega),if_neg (by omega),if_neg (by omega),if_neg (by omega),Bool.and_false]);have hq: ∀j:Int,0≤j→j≤14→(kd==j)=false:=fun j _ _=>beq_eq_false_iff_ne.2 (by omega);have k0:=hq 0 (by decide) (by decide);have k1:=hq 1 (by decide) (by decide);have k2:=hq 2 (by decide) (by decide);have k3:=hq 3 (by decide) (by decide);have k4:=hq 4 (by decide) (by decide);have k5:=hq 5 (by decide) (by decide);have k6:=hq 6 (by decide) (by decide);have k7:=hq 7 (by decide) (by decide);have k8:=hq 8 (by decide) (by decide);have k9:=hq 9 (by decide) (by decide);have k10:=hq 10 (by decide) (by decide);have k11:=hq 11 (by decide) (by decide);have k12:=hq 12 (by decide) (by decide);have k13:=hq 13 (by decide) (by decide);have k14:=hq 14 (by decide) (by decide);clear hq hx;go_wp2;go_ret;exact⟨ret_bool HT.out.symm,hbq⟩
 rcases(show(kd=0∨kd=1∨kd=2∨kd=3∨kd=5∨kd=6)∨(kd=4)∨(kd=7∨kd=8∨kd=9∨kd=10)∨(kd=11)∨(kd=12)∨(kd=13)∨(kd=14)by omega)with hk|hk|hk|hk|hk|hk|hk
 ·have HT:=qH (show mayB e=(nameB e.per&&nameB e.item&&e.text.isEmpty&&(e.val==0))by unfold mayB tailB;rw[HHD.out,HKE.out];rcases hk with rfl|rfl|rfl|rfl|rfl|rfl<;>(simp;cases nameB e.per<;>cases nameB e.item<;>cases nameB e.text<;>cases listingB e.text<;>cases e.per.isEmpty<;>cases e.item.isEmpty<;>cases e.text.isEmpty<;>simp));clear hx;rcases hk with rfl|rfl|rfl|rfl|rfl|rfl;all_goals
   go_wp2_with fail;refine(rn02q w2 e.per s2).mono ?_;rintro r w3⟨rfl,hw3⟩;rw[hw3];clear hw3;go_wp2_with fail;refine(rn02q w2 e.item s3).mono ?_;rintro r w3⟨rfl,hw3⟩;rw[hw3];clear hw3;generalize nameB e.per=b0 at*;generalize nameB e.item=b1 at*;generalize e.text.isEmpty=b2 at*;generalize(e.val==0)=b3 at*;cases b0;·go_wp2;go_ret;exact⟨ret_bool (by rw[HT.out];rfl),hbq⟩
   cases b1;·go_wp2;go_ret;exact⟨ret_bool (by rw[HT.out];rfl),hbq⟩
   cases b2;·go_wp2;go_ret;exact⟨ret_bool (by rw[HT.out];rfl),hbq⟩
   cases b3;·go_wp2;go_ret;exact⟨ret_bool (by rw[HT.out];rfl),hbq⟩
   go_wp2;go_ret;exact⟨ret_bool (by rw[HT.out];rfl),hbq⟩
 ·have HT:=qH (show mayB e=(nameB e.per&&nameB e.item&&e.text.isEmpty&&(decide (1≤e.val)&&decide (e.val≤5)))by unfold mayB tailB;rw[HHD.out,HKE.out];rw[hk];simp;cases nameB e.per<;>cases nameB e.item<;>cases nameB e.text<;>cases listingB e.text<;>cases e.per.isEmpty<;>cases e.item.isEmpty<;>cases e.text.isEmpty<;>simp);subst hk;clear hx;go_wp2_with fail;refine(rn02q w2 e.per s2).mono ?_;rintro r w3⟨rfl,hw3⟩;rw[hw3];clear hw3;go_wp2_with fail;refine(rn02q w2 e.item s3).mono ?_;rintro r w3⟨rfl,hw3⟩;rw[hw3];clear hw3;go_wp2_with fail;refine(rin_any w2 e.val 1 5).mono ?_;rintro r w3⟨rfl,hw3⟩;rw[hw3];clear hw3;generalize nameB e.per=b0 at*;generalize nameB e.item=b1 at*;generalize e.text.isEmpty=b2 at*;generalize(decide (1≤e.val)&&decide (e.val≤5))=b3 at*;cases b0;·go_wp2;go_ret;exact⟨ret_bool (by rw[HT.out];rfl),hbq⟩
  cases b1;·go_wp2;go_ret;exact⟨ret_bool (by rw[HT.out];rfl),hbq⟩
  cases b2;·go_wp2;go_ret;exact⟨ret_bool (by rw[HT.out];rfl),hbq⟩
  cases b3;·go_wp2;go_ret;exact⟨ret_bool (by rw[HT.out];rfl),hbq⟩
  go_wp2;go_ret;exact⟨ret_bool (by rw[HT.out];rfl),hbq⟩
 ·have HT:=qH (show mayB e=(nameB e.per&&e.item.isEmpty&&nameB e.text&&(e.val==0))by unfold mayB tailB;rw[HHD.out,HKE.out];rcases hk with rfl|rfl|rfl|rfl<;>(simp;cases nameB e.per<;>cases nameB e.item<;>cases nameB e.text<;>cases listingB e.text<;>cases e.per.isEmpty<;>cases e.item.isEmpty<;>cases e.text.isEmpty<;>simp));clear hx;rcases hk with rfl|rfl|rfl|rfl;all_goals
   go_wp2_with fail;refine(rn02q w2 e.per s2).mono ?_;rintro r w3⟨rfl,hw3⟩;rw[hw3];clear hw3;go_wp2_with fail;refine(rn02q w2 e.text s4).mono ?_;rintro r w3⟨rfl,hw3⟩;rw[hw3];clear hw3;generalize nameB e.per=b0 at*;generalize e.item.isEmpty=b1 at*;generalize nameB e.text=b2 at*;generalize(e.val==0)=b3 at*;cases b0;·go_wp2;go_ret;exact⟨ret_bool (by rw[HT.out];rfl),hbq⟩
   cases b1;·go_wp2;go_ret;exact⟨ret_bool (by rw[HT.out];rfl),hbq⟩
   cases b2;·go_wp2;go_ret;exact⟨ret_bool (by rw[HT.out];rfl),hbq⟩
   cases b3;·go_wp2;go_ret;exact⟨ret_bool (by rw[HT.out];rfl),hbq⟩
   go_wp2;go_ret;exact⟨ret_bool (by rw[HT.out];rfl),hbq⟩
 ·have HT:=qH (show mayB e=(e.per.isEmpty&&nameB e.item&&listingB e.text&&(decide (0≤e.val)&&decide (e.val≤1048576)))by unfold mayB tailB;rw[HHD.out,HKE.out];rw[hk];simp;cases nameB e.per<;>cases nameB e.item<;>cases nameB e.text<;>cases listingB e.text<;>cases e.per.isEmpty<;>cases e.item.isEmpty<;>cases e.text.isEmpty<;>simp);subst hk;clear hx;go_wp2_with fail;refine(rn02q w2 e.item s3).mono ?_;rintro r w3⟨rfl,hw3⟩;rw[hw3];clear hw3;go_wp2_with fail;refine(rin_any w2 e.val 0 1048576).mono ?_;rintro r w3⟨rfl,hw3⟩;rw[hw3];clear hw3;go_wp2_with fail;refine(rlabel_any w2 e.text s4).mono ?_;rintro r w3⟨rfl,hb3⟩;have hbq3:Below w.heap.size w w3:=hbq.trans (hb3.mono hbq.size);clear hbq hb3;generalize e.per.isEmpty=b0 at*;generalize nameB e.item=b1 at*;generalize listingB e.text=b2 at*;generalize(decide (0≤e.val)&&decide (e.val≤1048576))=b3 at*;clear g3 g4 g5 g6 g7;cases b0;·go_wp2;go_ret;exact⟨ret_bool (by rw[HT.out];rfl),hbq3⟩
  cases b1;·go_wp2;go_ret;exact⟨ret_bool (by rw[HT.out];rfl),hbq3⟩
  cases b2;·go_wp2;go_ret;exact⟨ret_bool (by rw[HT.out];rfl),hbq3⟩
  cases b3;·go_wp2;go_ret;exact⟨ret_bool (by rw[HT.out];rfl),hbq3⟩
  go_wp2;go_ret;exact⟨ret_bool (by rw[HT.out];rfl),hbq3⟩
 ·have HT:=qH (show mayB e=(e.per.isEmpty&&nameB e.item&&e.text.isEmpty&&(decide (0≤e.val)&&decide (e.val≤1048576)))by unfold mayB tailB;rw[HHD.out,HKE.out];rw[hk];simp;cases nameB e.per<;>cases nameB e.item<;>cases nameB e.text<;>cases listingB e.text<;>cases e.per.isEmpty<;>cases e.item.isEmpty<;>cases e.text.isEmpty<;>simp);subst hk;clear hx;go_wp2_with fail;refine(rn02q w2 e.item s3).mono ?_;rintro r w3⟨rfl,hw3⟩;rw[hw3];clear hw3;go_wp2_with fail;refine(rin_any w2 e.val 0 1048576).mono ?_;rintro r w3⟨rfl,hw3⟩;rw[hw3];clear hw3;generalize e.per.isEmpty=b0 at*;generalize nameB e.item=b1 at*;generalize e.text.isEmpty=b2 at*;generalize(decide (0≤e.val)&&decide (e.val≤1048576))=b3 at*;cases b0;·go_wp2;go_ret;exact⟨ret_bool (by rw[HT.out];rfl),hbq⟩
  cases b1;·go_wp2;go_ret;exact⟨ret_bool (by rw[HT.out];rfl),hbq⟩
  cases b2;·go_wp2;go_ret;exact⟨ret_bool (by rw[HT.out];rfl),hbq⟩
  cases b3;·go_wp2;go_ret;exact⟨ret_bool (by rw[HT.out];rfl),hbq⟩
  go_wp2;go_ret;exact⟨ret_bool (by rw[HT.out];rfl),hbq⟩
 ·have HT:=qH (show mayB e=(e.per.isEmpty&&nameB e.item&&e.text.isEmpty&&(e.val==0))by unfold mayB tailB;rw[HHD.out,HKE.out];rw[hk];simp;cases nameB e.per<;>cases nameB e.item<;>cases nameB e.text<;>cases listingB e.text<;>cases e.per.isEmpty<;>cases e.item.isEmpty<;>cases e.text.isEmpty<;>simp);subst hk;clear hx;go_wp2_with fail;refine(rn02q w2 e.item s3).mono ?_;rintro r w3⟨rfl,hw3⟩;rw[hw3];clear hw3;generalize e.per.isEmpty=b0 at*;generalize nameB e.item=b1 at*;generalize e.text.isEmpty=b2 at*;generalize(e.val==0)=b3 at*;cases b0;·go_wp2;go_ret;exact⟨ret_bool (by rw[HT.out];rfl),hbq⟩
  cases b1;·go_wp2;go_ret;exact⟨ret_bool (by rw[HT.out];rfl),hbq⟩
  cases b2;·go_wp2;go_ret;exact⟨ret_bool (by rw[HT.out];rfl),hbq⟩
  cases b3;·go_wp2;go_ret;exact⟨ret_bool (by rw[HT.out];rfl),hbq⟩
  go_wp2;go_ret;exact⟨ret_bool (by rw[HT.out];rfl),hbq⟩
 ·have HT:=qH (show mayB e=(nameB e.per&&e.item.isEmpty&&e.text.isEmpty&&(e.val==0))by unfold mayB tailB;rw[HHD.out,HKE.out];rw[hk];simp;cases nameB e.per<;>cases nameB e.item<;>cases nameB e.text<;>cases listingB e.text<;>cases e.per.isEmpty<;>cases e.item.isEmpty<;>cases e.text.isEmpty<;>simp);subst hk;clear hx;go_wp2_with fail;refine(rn02q w2 e.per s2).mono ?_;rintro r w3⟨rfl,hw3⟩;rw[hw3];clear hw3;generalize nameB e.per=b0 at*;generalize e.item.isEmpty=b1 at*;generalize e.text.isEmpty=b2 at*;generalize(e.val==0)=b3 at*;cases b0;·go_wp2;go_ret;exact⟨ret_bool (by rw[HT.out];rfl),hbq⟩
  cases b1;·go_wp2;go_ret;exact⟨ret_bool (by rw[HT.out];rfl),hbq⟩
  cases b2;·go_wp2;go_ret;exact⟨ret_bool (by rw[HT.out];rfl),hbq⟩
  cases b3;·go_wp2;go_ret;exact⟨ret_bool (by rw[HT.out];rfl),hbq⟩
  go_wp2;go_ret;exact⟨ret_bool (by rw[HT.out];rfl),hbq⟩
theorem rmay_head(w:World)(e:Ev)(hs:e.small)(hh:headB e=false):Calls Tryz.prog 31 #[e.agg] w (Says (mayB e) w):=by
 obtain⟨s1,s2,s3,s4⟩:=hs;have HT:=qH (show mayB e=false by unfold mayB;rw[hh];rfl);have HH:=qH (show(nameB e.src&&(decide (1≤e.num)&&decide (e.num≤1099511627776))&&(decide (0≤e.at_)&&decide (e.at_≤1099511627776)))=false by rw[←hh];unfold headB;simp only[Bool.and_assoc]);clear hh;unfold Ev.agg;go_enter Tryz.func31,Tryz.ntmps31;have hb:Below w.heap.size w (w.alloc (evObj e)):=(Below.refl _ _).alloc (Nat.le_refl _) _;obtain⟨f0,f1,f2,f3,f4,f5,f6,f7⟩:=EvIn.new w e;go_wp2_with fail;refine(rn02q _ e.src s1).mono ?_;rintro r w1⟨rfl,rfl⟩;generalize w.alloc (evObj e)=w1 at*;generalize nameB e.src=b0 at*;cases b0;·go_wp2;go_ret;exact⟨ret_bool HT.out.symm,hb⟩
 go_wp2_with fail;refine(rin_any w1 e.num 1 1099511627776).mono ?_;rintro r w2⟨rfl,hw2⟩;rw[hw2];clear hw2;generalize(decide (1≤e.num)&&decide (e.num≤1099511627776))=b1 at*;cases b1;·go_wp2;go_ret;exact⟨ret_bool HT.out.symm,hb⟩
 go_wp2_with fail;refine(rin_any w1 e.at_ 0 1099511627776).mono ?_;rintro r w2⟨rfl,hw2⟩;rw[hw2];clear hw2;generalize(decide (0≤e.at_)&&decide (e.at_≤1099511627776))=b2 at*;cases b2;·go_wp2;go_ret;exact⟨ret_bool HT.out.symm,hb⟩
 ·have:=HH.out;simp at this
theorem rmay_any(w:World)(e:Ev)(hs:e.small):Calls Tryz.prog 31 #[e.agg] w (Says (mayB e) w):=by
 cases hh:headB e;·exact rmay_head w e hs hh
 ·exact rmay_tail w e hs hh
abbrev ritkObj(bc:Nat)(vh vt vl vg:Value):Obj:=.cells #[.pointer (some ⟨bc,0,none⟩),vh,vt,vl,vg] 63
structure RParts(w:World)(S:Nat→Prop)(N:Nat)(x:Itk)(vh vt vl vg:Value):Prop where
 had: ∃A c R,vh=.slice A R.length c∧Hads w S A R.length c R∧keysH R=x.had.map (fun p=>(p.1,nums p.2))∧R.length≤N∧ ∀q∈R,q.2.1.length≤N
 taken: ∃A c,vt=.slice A x.taken.length c∧Evs w w.heap.size A x.taken.length c x.taken∧VwIn S A x.taken.length
 late: ∃A c,vl=.slice A x.late.length c∧Evs w w.heap.size A x.late.length c x.late∧VwIn S A x.late.length
 gone: ∃A c gs,vg=.slice A gs.length c∧Strs w w.heap.size A gs.length c gs∧VwIn S A gs.length∧Rising gs x.gone∧gs.length≤N
structure RItk(w:World)(bm bc:Nat)(S:Nat→Prop)(N:Nat)(x:Itk):Prop where
 blk: ∃vh vt vl vg,w.heap[bm]?=some (ritkObj bc vh vt vl vg)∧RParts w S N x vh vt vl vg
 clk:RClk w bc S N x.clk
 ns: ¬S bm
 ne:bm≠bc
 ok:HadOk x.had
 tl:x.taken.length≤N
 ll:x.late.length≤N
theorem IntsV.stay{w w':World}{S F:Nat→Prop}{v:Value}{l:List Int}(h:IntsV w S v l)(hk:Keep F w w')(hF: ∀b,F b→ ¬S b):IntsV w' S v l:=by obtain⟨A,c,hv,hc,hvw⟩:=h;exact⟨A,c,hv,Cel.stay hc hvw hk.size (fun b off hb hlt=>hk.cell (p:=⟨b,off,none⟩) hlt (fun hf=>hF _ hf hb)),hvw⟩
theorem Hads.stay{w w':World}{S F:Nat→Prop}{A:Option Addr}{n c:Nat}{R:List HRow}(h:Hads w S A n c R)(hk:Keep F w w')(hF: ∀b,F b→ ¬S b):Hads w' S A n c R:=⟨Cel.stay h.cel h.vw hk.size (fun b off hb hlt=>hk.cell (p:=⟨b,off,none⟩) hlt (fun hf=>hF _ hf hb)),fun q hq=>(h.row q hq).stay hk hF,h.vw⟩
theorem RParts.stay{w w':World}{S F:Nat→Prop}{N:Nat}{x:Itk}{vh vt vl vg:Value}(h:RParts w S N x vh vt vl vg)(hk:Keep F w w')(hF: ∀b,F b→ ¬S b):RParts w' S N x vh vt vl vg:=by
 have key: ∀{size:Nat}{A:Option Addr}{n c:Nat}{xs:List Value},Cel w w.heap.size size A n c xs→VwIn S A n→Cel w' w'.heap.size size A n c xs:=fun hc hvw=>Cel.stay hc hvw hk.size (fun b off hb hlt=>hk.cell (p:=⟨b,off,none⟩) hlt (fun hf=>hF _ hf hb));refine⟨?_,?_,?_,?_⟩;·obtain⟨A,c,R,h1,h2,h3⟩:=h.had;exact⟨A,c,R,h1,h2.stay hk hF,h3⟩
 ·obtain⟨A,c,h1,h2,h3⟩:=h.taken;exact⟨A,c,h1,key h2 h3,h3⟩
 ·obtain⟨A,c,h1,h2,h3⟩:=h.late;exact⟨A,c,h1,key h2 h3,h3⟩
 ·obtain⟨A,c,gs,h1,h2,h3,h4⟩:=h.gone;exact⟨A,c,gs,h1,key h2 h3,h3,h4⟩
theorem RItk.stay{w w':World}{bm bc N:Nat}{S F:Nat→Prop}{x:Itk}(h:RItk w bm bc S N x)(hk:Keep F w w')(hF: ∀b,F b→ ¬S b∧b≠bm∧b≠bc):RItk w' bm bc S N x:=by obtain⟨vh,vt,vl,vg,hb,hp⟩:=h.blk;have hlt:bm<w.heap.size:=(Array.getElem?_eq_some_iff.1 hb).1;exact⟨⟨vh,vt,vl,vg,(hk.block bm hlt (fun hf=>(hF _ hf).2.1 rfl)).trans hb,hp.stay hk (fun b hf=>(hF b hf).1)⟩,h.clk.stay hk (fun b hf=>⟨(hF b hf).1,(hF b hf).2.2⟩),h.ns,h.ne,h.ok,h.tl,h.ll⟩
theorem RItk.up{w w':World}{bm bc N:Nat}{S:Nat→Prop}{x:Itk}(h:RItk w bm bc S N x)(hb:Below w.heap.size w w'):RItk w' bm bc S N x:=h.stay (F:=fun _=>False) (Keep.of_below hb) (fun _ h=>h.elim)
def RNewPost(w:World)(x:Itk)(e:Ending)(w':World):Prop:= ∃bm bc,e=.returned (.pointer (some ⟨bm,0,none⟩))∧RItk w' bm bc (fun _=>False) 0 x∧w.heap.size≤bm∧w.heap.size≤bc∧Below w.heap.size w w'
theorem rclknew_any(w:World)(slack idle:Int):Calls Tryz.prog 116 #[.int .i64 slack,.int .i64 idle] w fun e w'=>e=.returned (.pointer (some ⟨w.heap.size,0,none⟩))∧w'=w.alloc (rclkObj (Clk.new slack idle) (.slice none 0 0)):=by have HN:=qH (show Clk.new slack idle=⟨boundI slack,boundI idle,0,-1,[]⟩from rfl);go_enter Tryz.func116,Tryz.ntmps116;go_wp2_with fail;refine(held_any w slack).mono ?_;rintro r w1⟨rfl,hw1⟩;rw[hw1];clear hw1;go_wp2_with fail;refine(held_any w idle).mono ?_;rintro r w1⟨rfl,hw1⟩;rw[hw1];clear hw1;go_wp2;go_ret;exact⟨rfl,rfl⟩
theorem ritknew_any(w:World)(slack idle:Int):Calls Tryz.prog 57 #[.int .i64 slack,.int .i64 idle] w (RNewPost w (Itk.new slack idle)):=by
 go_enter Tryz.func57,Tryz.ntmps57;go_wp2_with fail;refine(rclknew_any w slack idle).mono ?_;rintro r w1⟨rfl,rfl⟩;have HR:=qH (show RNewPost w (Itk.new slack idle) (.returned (.pointer (some ⟨w.heap.size+1,0,none⟩))) ((w.alloc (rclkObj (Clk.new slack idle) (.slice none 0 0))).alloc (ritkObj w.heap.size (.slice none 0 0) (.slice none 0 0) (.slice none 0 0) (.slice none 0 0)))from by
  have hb1:Below w.heap.size w (w.alloc (rclkObj (Clk.new slack idle) (.slice none 0 0))):=(Below.refl _ _).alloc (Nat.le_refl _) _;have hb2:=hb1.alloc hb1.size (ritkObj w.heap.size (.slice none 0 0) (.slice none 0 0) (.slice none 0 0) (.slice none 0 0));have hm:(0:Nat)≤maxLen:=Nat.zero_le _;have hs1:(w.alloc (rclkObj (Clk.new slack idle) (.slice none 0 0))).heap.size=w.heap.size+1:=by simp
  have hv: ∀(S:Nat→Prop),VwIn S none 0:=fun S a ha=>by cases ha
  refine⟨w.heap.size+1,w.heap.size,rfl,⟨⟨_,_,_,_,by rw[←hs1];exact heap_alloc_new _ _,⟨⟨none,0,[],rfl,⟨Cel.nil _ _ _ _ _ hm,fun q hq=>(by cases hq),hv _⟩,rfl,Nat.le_refl _,fun q hq=>(by cases hq)⟩,⟨none,0,rfl,Cel.nil _ _ _ _ _ hm,hv _⟩,⟨none,0,rfl,Cel.nil _ _ _ _ _ hm,hv _⟩,⟨none,0,[],rfl,Cel.nil _ _ _ _ _ hm,hv _,⟨List.Pairwise.nil,fun y=>by simp[Itk.new]⟩,Nat.le_refl _⟩⟩⟩,⟨⟨none,0,0,?_,Cel.nil _ _ _ _ _ hm,hv _⟩,fun h=>h,fun b h=>h.elim,ClkOk.new slack idle,Nat.le_refl _⟩,fun h=>h,by omega,HadOk.nil,Nat.le_refl _,Nat.le_refl _⟩,by omega,Nat.le_refl _,hb2⟩;exact(Below.heap_alloc _ _ w.heap.size (by rw[hs1];omega)).trans (heap_alloc_new w _));go_wp2;go_ret;exact HR.out
end Go.Proofs.YtbejfgmdkmddnaaGreatDoor
