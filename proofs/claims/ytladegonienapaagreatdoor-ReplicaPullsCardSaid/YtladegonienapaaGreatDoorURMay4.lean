/-
  Layer 2, the document's: May.
-/
import Derived.Test.YtladegonienapaaGreatDoorUEvLen
set_option maxRecDepth 100000
set_option maxHeartbeats 16000000
namespace Go.Proofs.YtladegonienapaaGreatDoor
open Go.RowKit Go.Maps Go.Sort
theorem Iw{c:UInt8}: ∀{s:List UInt8}(k:Nat)(hk:k<s.length),s[k]=c→(∀j(hj:j<s.length),j<k→s[j]≠c)→Lib.index s [c]=k
 |[],k,hk,_,_=>by simp at hk
 |b::l,0,_,h,_=>by have hb:b=c:=h;subst hb;rw[Lib.index];simp[List.isPrefixOf]
 |b::l,k+1,hk,h,hn=>by
  have hb:b≠c:=hn 0 (by simp) (by omega);have hp:([c]:List UInt8).isPrefixOf (b::l)=false:=by simp[List.isPrefixOf,Ne.symm hb]
  have ih:=Iw (s:=l) k (by simpa using hk) (by simpa using h) (fun j hj hjk=>hn (j+1) (by simpa using hj) (by omega));rw[Lib.index,hp,ih];have:((k:Int)== -1)=false:=by rw[beq_eq_false_iff_ne];omega
  simp[this]
theorem DX{c:UInt8}: ∀{s:List UInt8},(∀j(hj:j<s.length),s[j]≠c)→Lib.index s [c]= -1
 |[],_=>by simp[Lib.index]
 |b::l,hn=>by
  have hb:b≠c:=hn 0 (by simp);have hp:([c]:List UInt8).isPrefixOf (b::l)=false:=by simp[List.isPrefixOf,Ne.symm hb]
  have ih:=DX (s:=l) (fun j hj=>hn (j+1) (by simpa using hj));rw[Lib.index,hp,ih];rfl
def bF(c:UInt8):List UInt8→List (List UInt8)|[]=>[[]]|x::r=>if x=c then[]::bF c r else(x::(bF c r).headD [])::(bF c r).tail
theorem uF{c:UInt8}: ∀{a:List UInt8},c∉a→bF c a=[a]|[],_=>rfl|x::a,h=>by simp only[List.mem_cons,not_or]at h;rw[bF,if_neg (Ne.symm h.1),uF h.2];rfl
theorem xg{c:UInt8}(b:List UInt8): ∀{a:List UInt8},c∉a→bF c (a++c::b)=a::bF c b|[],_=>by rw[List.nil_append,bF,if_pos rfl]|x::a,h=>by simp only[List.mem_cons,not_or]at h;rw[List.cons_append,bF,if_neg (Ne.symm h.1),xg b h.2];rfl
theorem ru(c:UInt8): ∀s:List UInt8,Lib.splitK [c] 0 (Lib.count s [c]) s=bF c s
 |[]=>by rw[Lib.count_miss (by simp[Lib.index])];rfl
 |b::l=>by
  have ih:=ru c l;by_cases h:b=c
  ·subst h;have hix:Lib.index (b::l) [b]=0:=by rw[Lib.index];simp[List.isPrefixOf]
   rw[Lib.count_cons_eq,Nat.add_comm,Lib.splitK,hix,bF,if_pos rfl,←ih];rfl
  ·have hp:([c]:List UInt8).isPrefixOf (b::l)=false:=by simp[List.isPrefixOf,Ne.symm h]
   have hix:Lib.index (b::l) [c]=if Lib.index l [c]== -1 then-1 else Lib.index l [c]+1:=by rw[Lib.index,hp];simp
   rw[Lib.count_cons_ne b c l h,bF,if_neg h,←ih];by_cases hm:Lib.index l [c]= -1;·rw[Lib.count_miss hm];rfl
   ·have hge:=Lib.index_ge l [c];obtain⟨j,hj⟩: ∃j:Nat,Lib.index l [c]=j:=⟨(Lib.index l [c]).toNat,by omega⟩;have hne:(Lib.index l [c]== -1)=false:=by rw[beq_eq_false_iff_ne];exact hm
    have hne2:(((j:Int)+1)== -1)=false:=by rw[beq_eq_false_iff_ne];omega
    have hne3:((j:Int)== -1)=false:=by rw[beq_eq_false_iff_ne];omega
    rw[Lib.count_hit (by simp) hj,Nat.add_comm,Lib.splitK,Lib.splitK,hix,hne,hj];simp only[Bool.false_eq_true,if_false,hne2,List.headD_cons,List.tail_cons,List.length_singleton,Nat.add_zero];rw[show((j:Int)+1).toNat=j+1 by omega,show((j:Int)).toNat=j by omega];rfl
theorem Cm(s:List UInt8):eF s=if(fJ s).isEmpty then[]else bF 44 (fJ s):=by
 unfold eF;split;·rfl
 ·rw[Lib.splitB_data,←ru];try rfl
theorem qy(w:World)(l:List UInt8)(hm:l.length≤1000000000):Calls Tryz.prog 166 #[.string ⟨l.toArray⟩] w fun e w'=>e=.returned (.int .i64 (Lib.index l [59]))∧w=w':=by
 go_enter Tryz.func166,Tryz.ntmps166;go_wp2;go_loop[3](fun i=> ∃k:Nat,i=.int .i64 k∧k≤l.length∧Hid (∀j(hj:j<l.length),j<k→l[j]≠59))(fun i=>l.length-(intOf i).toNat);case atStart=>exact⟨0,rfl,Nat.zero_le _,fun j _ h=>by omega⟩
 case round=>
  obtain⟨k,rfl,hk,HK⟩:=hrel;by_cases hkn:k<l.length
  ·have g0:(⟨l.toArray⟩:ByteArray)[k]'(by simpa[ByteArray.size]using hkn)=l[k]:=rfl;by_cases h59:l[k]=59
   ·have HI:=qH (Iw k hkn h59 HK.o);have b1:((l[k].toNat:Int)==59)=true:=by rw[h59];rfl
    clear h59;generalize l[k]=x at*;go_wp2;go_ret;exact⟨aY HI.o.symm,rfl⟩
   ·have HN:=qS (∀j(hj:j<l.length),j<k+1→l[j]≠59) (fun j hj hlt=>by
     by_cases e:j=k;·subst e;exact h59
     ·exact HK.o j hj (by omega));have b1:((l[k].toNat:Int)==59)=false:=by
     rw[beq_eq_false_iff_ne];intro e;exact h59 (UInt8.toNat_inj.1 (by
      have:l[k].toNat=59:=by omega
      rw[this];rfl))
    clear h59;generalize l[k]=x at*;go_wp2;go_round;case rel=>exact⟨k+1,by go_num,by omega,HN.o⟩
    case measure=>simp[intOf];omega
  ·have HI:=qH (DX (c:=59) (s:=l) (fun j hj=>HK.o j hj (by omega)));go_wp2;go_ret;exact⟨aY HI.o.symm,rfl⟩
theorem Fv(w:World)(l:List UInt8)(hm:l.length≤1000000000):Calls Tryz.prog 167 #[.string ⟨l.toArray⟩] w fun e w'=>e=.returned (.string ⟨(Lib.cut l [59]).1.toArray⟩)∧w=w':=by
 have HC:=qS (Lib.cut l [59]=if 0≤Lib.index l [59]then(l.take (Lib.index l [59]).toNat,l.drop ((Lib.index l [59]).toNat+1),true)else(l,[],false)) (rfl);have hroom:=Lib.index_room l [59];go_enter Tryz.func167,Tryz.ntmps167;go_wp2_with fail;refine(qy w l hm).mono ?_;rintro r w1⟨rfl,rfl⟩;by_cases h0:0≤Lib.index l [59]
 ·obtain⟨k,hk⟩: ∃k:Nat,Lib.index l [59]=k:=⟨(Lib.index l [59]).toNat,by omega⟩;have hkl:=hroom h0;have HC':=qS ((Lib.cut l [59]).1=l.take k) (by rw[HC.o,if_pos h0,hk];rfl);rw[hk]at*;simp only[List.length_singleton]at hkl;have hkl':k<l.length:=by omega
  have hsl: ∀wx,(Instr.slice 9 (.string ⟨l.toArray⟩) none (some (.int .i64 (k:Int))) none).run Tryz.prog wx=.ok (.string ⟨(l.take k).toArray⟩) wx:=fun wx=>SS _ Tryz.underlying9 l k k rfl (by omega) wx;clear hk hroom HC hkl h0;go_wp2;go_ret;rw[HC'.o];first|exact⟨rfl,rfl⟩|(rw[vN];simp)
 ·have HC':=qS ((Lib.cut l [59]).1=l) (by rw[HC.o,if_neg h0]);clear hroom HC;go_wp2;go_ret;rw[HC'.o];exact⟨rfl,rfl⟩
theorem Il{c:UInt8}{s:List UInt8}{f k:Nat}(hk:k≤s.length)(h: ∀j(hj:j<s.length),f≤j→j<k→s[j]≠c):c∉(s.drop f).take (k-f):=by intro hc;obtain⟨i,hi,he⟩:=List.getElem_of_mem hc;rw[List.length_take,List.length_drop]at hi;rw[List.getElem_take,List.getElem_drop]at he;exact h (f+i) (by omega) (by omega) (by omega) he
theorem FL{c:UInt8}{s:List UInt8}{f:Nat}(h: ∀j(hj:j<s.length),f≤j→j<s.length→s[j]≠c):bF c (s.drop f)=[(s.drop f).take (s.length-f)]:=by have e:(s.drop f).take (s.length-f)=s.drop f:=List.take_of_length_le (by simp);have:=Il (Nat.le_refl _) h;rw[e]at this⊢;exact uF this
theorem FK{c:UInt8}{s:List UInt8}{f k:Nat}(hf:f≤k)(hk:k<s.length)(hc:s[k]=c)(h: ∀j(hj:j<s.length),f≤j→j<k→s[j]≠c):bF c (s.drop f)=(s.drop f).take (k-f)::bF c (s.drop (k+1)):=by
 have e:s.drop f=(s.drop f).take (k-f)++c::s.drop (k+1):=by
  have e1:(s.drop f).drop (k-f)=s[k]::s.drop (k+1):=by rw[List.drop_drop,show f+(k-f)=k by omega];exact List.drop_eq_getElem_cons hk
  conv=>lhs;rw[←List.take_append_drop (k-f) (s.drop f),e1,hc]
 conv=>lhs;rw[e]
 exact xg _ (Il (Nat.le_of_lt hk) h)
def IZ(w:World)(s:List UInt8)(c:UInt8)(v f i:Value)(wr:World):Prop:= ∃(k f':Nat)(out:List (List UInt8)),i=.int .i64 k∧f=.int .i64 f'∧wr.ownsRow w.heap.size 9 1 v out.length (out.map encStr)∧Below w.heap.size w wr∧out.length≤k∧k≤s.length+1∧((k≤s.length∧f'≤k∧out++bF c (s.drop f')=bF c s∧ ∀j(hj:j<s.length),f'≤j→j<k→s[j]≠c)∨(k=s.length+1∧out=bF c s))
def oz(w:World)(ss:List (List UInt8))(e:Ending)(w':World):Prop:= ∃A c,e=.returned (.slice A ss.length c)∧Strs w' w'.heap.size A ss.length c ss∧Below w.heap.size w w'
theorem Fu(w:World)(s:List UInt8)(hs:s.length≤1000000000)(c:UInt8):Calls Tryz.prog 213 #[.string ⟨s.toArray⟩,.int .u8 c.toNat] w (oz w (bF c s)):=by
 obtain⟨i0,hi,hz0,hz1,hz2⟩:=info_parts Cn;have HI:=qH hi;have HZ0:=qH hz0;have HZ1:=qH hz1;have HZ2:=qH hz2;clear hi hz0 hz1 hz2;have hsz:(⟨s.toArray⟩:ByteArray).size=s.length:=by simp[ByteArray.size]
 go_enter Tryz.func213,Tryz.ntmps213;go_wp2;go_loopw[5,6,7](fun v f i wr=>IZ w s c v f i wr)(fun _ _ i _=>s.length+1-(intOf i).toNat);case atStart=>exact⟨0,0,[],rfl,rfl,World.ownsRow_lit w #[] 0 (Nat.le_refl _) (by simp[maxLen]) rfl,(Below.refl _ _).alloc (Nat.le_refl _) _,by simp,by omega,.inl ⟨by omega,by omega,by simp,fun j _ _ h=>by omega⟩⟩
 case round=>
  obtain⟨k,f,out,rfl,rfl,hown,hbel,hol,hks,hor⟩:=hrel;have HO:=qH hown;clear hown;have Pj:=qH hor;clear hor;have hbs:=hbel.size;by_cases hkn:k≤s.length
  ·have t1:(k:Int)≤s.length:=by omega
   obtain⟨_,Ve,ES,hno⟩:k≤s.length∧f≤k∧out++bF c (s.drop f)=bF c s∧ ∀j(hj:j<s.length),f≤j→j<k→s[j]≠c:=by
    rcases Pj.o with h|h;·exact h
    ·omega
   have Xk:=qH ES;have vK:=qH hno;clear ES hno Pj;have hmid: ∀wx,(Instr.slice 9 (.string ⟨s.toArray⟩) (some (.int .i64 (f:Int))) (some (.int .i64 (k:Int))) none).run Tryz.prog wx=.ok (.string ⟨((s.drop f).take (k-f)).toArray⟩) wx:=fun wx=>PD _ Tryz.underlying9 s f k f k rfl rfl Ve (by omega) wx;by_cases hke:k=s.length
   ·have HE:=qS (out++[(s.drop f).take (k-f)]=bF c s) (by rw[←Xk.o,hke,FL (fun j hj h1 h2=>vK.o j hj h1 (by omega))]);have b1:((k:Int)==(s.length:Int))=true:=by simp[hke]
    have HKK:=qH hke;clear hke;generalize(s.drop f).take (k-f)=pc at*;go_wp2_with(at_builtin;refine aj (P:=Tryz.prog) rfl (.tmp 26) (.tmp 31) 38 rfl 9 i0 (.string ByteArray.empty) 1 16 Tryz.underlying38 HI.o HZ0.o HZ1.o HZ2.o rfl (by decide) w.heap.size _ out.length (out.map encStr) rfl ?c1 (wr.heap.size+1) _ _ _ [.string ⟨pc.toArray⟩] rfl ?c2 ?c3 ?c4 ?c5 ?c6 ?_);case c1=>exact World.ownsRow.alloc HO.o _
    case c2=>exact ax.new wr #[.string ⟨pc.toArray⟩] _ (by unfold maxLen;omega) rfl
    case c3=>simp[Value.oneCell']
    case c4=>unfold maxLen;omega
    case c5=>omega
    case c6=>first|omega|(simp;omega)
    intro v2 w2 hown2 hg2 _;have hb2:Below w.heap.size w w2:=Below.grown (hbel.alloc hbs (.cells #[.string ⟨pc.toArray⟩] 9)) hg2 (by simp;omega) (fun j hj=>(HO.o.lt j hj).1);have HR:=qS (IZ w s c v2 (.int .i64 ((k+1:Nat):Int)) (.int .i64 ((k+1:Nat):Int)) w2) (⟨k+1,k+1,out++[pc],rfl,rfl,by rw[List.map_append,List.length_append];exact hown2,hb2,by simp;omega,by omega,.inr ⟨by have:=HKK.o;omega,HE.o⟩⟩);clear hown2 hg2 hb2 hmid;go_wp2;go_roundw;case rel=>exact HR.o
    case measure=>simp[intOf];omega
   ·have VR:k<s.length:=by omega
    have g0:(⟨s.toArray⟩:ByteArray)[k]'(by simpa[ByteArray.size]using VR)=s[k]:=rfl;have b1:((k:Int)==(s.length:Int))=false:=by rw[beq_eq_false_iff_ne];omega
    by_cases hc:s[k]=c
    ·have HE:=qS (out++[(s.drop f).take (k-f)]++bF c (s.drop (k+1))=bF c s) (by rw[←Xk.o,FK Ve VR hc vK.o];simp);have b2:((s[k].toNat:Int)==(c.toNat:Int))=true:=by simp[hc]
     clear hc hke;generalize(s.drop f).take (k-f)=pc at*;generalize s[k]=x at*;go_wp2_with(at_builtin;refine aj (P:=Tryz.prog) rfl (.tmp 26) (.tmp 31) 38 rfl 9 i0 (.string ByteArray.empty) 1 16 Tryz.underlying38 HI.o HZ0.o HZ1.o HZ2.o rfl (by decide) w.heap.size _ out.length (out.map encStr) rfl ?c1 (wr.heap.size+1) _ _ _ [.string ⟨pc.toArray⟩] rfl ?c2 ?c3 ?c4 ?c5 ?c6 ?_);case c1=>exact World.ownsRow.alloc HO.o _
     case c2=>exact ax.new wr #[.string ⟨pc.toArray⟩] _ (by unfold maxLen;omega) rfl
     case c3=>simp[Value.oneCell']
     case c4=>unfold maxLen;omega
     case c5=>omega
     case c6=>first|omega|(simp;omega)
     intro v2 w2 hown2 hg2 _;have hb2:Below w.heap.size w w2:=Below.grown (hbel.alloc hbs (.cells #[.string ⟨pc.toArray⟩] 9)) hg2 (by simp;omega) (fun j hj=>(HO.o.lt j hj).1);have HR:=qS (IZ w s c v2 (.int .i64 ((k+1:Nat):Int)) (.int .i64 ((k+1:Nat):Int)) w2) (⟨k+1,k+1,out++[pc],rfl,rfl,by rw[List.map_append,List.length_append];exact hown2,hb2,by simp;omega,by omega,.inl ⟨by omega,Nat.le_refl _,HE.o,fun j _ h1 h2=>by omega⟩⟩);clear hown2 hg2 hb2 hmid;go_wp2;go_roundw;case rel=>exact HR.o
     case measure=>simp[intOf];omega
    ·have b2:((s[k].toNat:Int)==(c.toNat:Int))=false:=by rw[beq_eq_false_iff_ne];intro e;exact hc (UInt8.toNat_inj.1 (by omega))
     have HR:=qS (IZ w s c u5 (.int .i64 (f:Int)) (.int .i64 ((k+1:Nat):Int)) wr) (⟨k+1,f,out,rfl,rfl,HO.o,hbel,by omega,by omega,.inl ⟨by omega,by omega,Xk.o,fun j hj h1 h2=>by
      by_cases e:j=k;·subst e;exact hc
      ·exact vK.o j hj h1 (by omega)⟩⟩);clear hc hke hmid;generalize s[k]=x at*;go_wp2;go_roundw;case rel=>exact HR.o
     case measure=>simp[intOf];omega
  ·have t1: ¬(k:Int)≤s.length:=by omega
   have hout:out=bF c s:=by
    rcases Pj.o with h|h;·exact absurd h.1 hkn
    ·exact h.2
   obtain⟨A3,c3,hv⟩:=ownsRow_form HO.o;have HR:=qS (oz w (bF c s) (.returned u5) wr) (⟨A3,c3,by rw[←hout,hv],by have:=HO.o;rw[hv]at this;rw[←hout];exact ax.aQ this,hbel⟩);clear hout hv Pj;go_wp2;go_ret;exact HR.o
theorem LU{P:Program}(t:TypeId)(h:P.underlying t=some .string)(l:List UInt8)(i:Int)(a:Nat)(hi:i=(a:Int))(h2:a≤l.length)(w:World):(Instr.slice t (.string ⟨l.toArray⟩) (some (.int .i64 i)) none none).run P w=.ok (.string ⟨(l.drop a).toArray⟩) w:=by
 subst hi;rw[run_slice_string_from_if w t ⟨l.toArray⟩ .i64 a h,if_pos ⟨by omega,by simpa[ByteArray.size]using h2⟩];have:(⟨l.toArray⟩:ByteArray).size=l.length:=by simp[ByteArray.size]
 rw[this,vN];simp[List.take_of_length_le]
theorem JC(w:World)(l:List UInt8)(hm:l.length≤1000000000):Calls Tryz.prog 168 #[.string ⟨l.toArray⟩] w (oz w (eF l)):=by
 have HC:=qS (Lib.cut l [59]=if 0≤Lib.index l [59]then(l.take (Lib.index l [59]).toNat,l.drop ((Lib.index l [59]).toNat+1),true)else(l,[],false)) (rfl);have HT:=qH (Cm l);have lX:=qS (fJ l=(Lib.cut l [59]).2.1) (rfl);have hroom:=Lib.index_room l [59];have Uw:=qS (∀wx:World,Below w.heap.size w wx→oz w [] (.returned (.slice (some ⟨wx.heap.size,0,none⟩) 0 0)) (wx.alloc (.cells #[] 9))) (fun wx hbx=>⟨_,0,rfl,ax.nil _ _ _ _ _ (by unfold maxLen;omega),hbx.alloc hbx.size _⟩);go_enter Tryz.func168,Tryz.ntmps168;go_wp2_with fail;refine(qy w l hm).mono ?_;rintro r w1⟨rfl,rfl⟩;by_cases h0:0≤Lib.index l [59]
 ·obtain⟨k,hk⟩: ∃k:Nat,Lib.index l [59]=k:=⟨(Lib.index l [59]).toNat,by omega⟩;have hkl:=hroom h0;have HR:=qS (fJ l=l.drop (k+1)) (by rw[lX.o,HC.o,if_pos h0,hk];rfl);rw[hk]at*;simp only[List.length_singleton]at hkl;have hkl':k<l.length:=by omega
  by_cases hl:k+1=l.length
  ·have HE:=qS (eF l=[]) (by rw[HT.o,HR.o,List.drop_of_length_le (by omega)];rfl);have b1:((k:Int)==(l.length:Int)-1)=true:=by rw[beq_iff_eq];omega
   have b0: ¬(k:Int)<0:=by omega
   clear hk hroom HC hkl h0 hl HT HR lX;go_wp2;go_ret;rw[HE.o];exact Uw.o w (Below.refl _ _)
  ·have HE:=qS (eF l=bF 44 (l.drop (k+1))) (by rw[HT.o,HR.o,if_neg];rw[List.isEmpty_iff,List.drop_eq_nil_iff];omega);have b1:((k:Int)==(l.length:Int)-1)=false:=by rw[beq_eq_false_iff_ne];omega
   have b0: ¬(k:Int)<0:=by omega
   have hsl: ∀wx,(Instr.slice 9 (.string ⟨l.toArray⟩) (some (.int .i64 ((k:Int)+1))) none none).run Tryz.prog wx=.ok (.string ⟨(l.drop (k+1)).toArray⟩) wx:=fun wx=>LU _ Tryz.underlying9 l _ (k+1) (by omega) (by omega) wx;have hpl:(l.drop (k+1)).length≤1000000000:=by simp;omega
   clear hk hroom HC hkl h0 hl HT HR lX Uw;generalize l.drop (k+1)=pl at*;go_wp2_with fail;refine(Fu w pl hpl 44).mono ?_;rintro r w2⟨A,c,rfl,hst,hb⟩;have HP:=qS (oz w (bF 44 pl) (.returned (.slice A (bF 44 pl).length c)) w2) (⟨A,c,rfl,hst,hb⟩);clear hst hb;generalize bF 44 pl=ps at*;go_wp2;go_ret;rw[HE.o];exact HP.o
 ·have HE:=qS (eF l=[]) (by rw[HT.o,lX.o,HC.o,if_neg h0];rfl);have b0:Lib.index l [59]<0:=by omega
  clear hroom HC HT lX h0;generalize Lib.index l [59]=ix at*;go_wp2;go_ret;rw[HE.o];exact Uw.o w (Below.refl _ _)
theorem mh(w:World)(n lo hi:Int):Calls Tryz.prog 110 #[.int .i64 n,.int .i64 lo,.int .i64 hi] w fun e w'=>e=.returned (.bool (decide (lo≤n)&&decide (n≤hi)))∧w'=w:=by
 by_cases h:lo≤n;·go_enter Tryz.func110,Tryz.ntmps110;go_wp2;go_ret;exact⟨aa (by simp[h]),rfl⟩
 ·go_enter Tryz.func110,Tryz.ntmps110;go_wp2;go_ret;exact⟨aa (by simp;omega),rfl⟩
def WL(ts:List (List UInt8))(w2:World)(i:Value)(wr:World):Prop:= ∃k q:Nat,i=.int .i64 k∧k≤ts.length∧wr=w2.drewN q∧Hid (∀j,j<k→pQ ts j=true)
theorem lL(w:World)(l:List UInt8)(hm:l.length≤1000000000):Calls Tryz.prog 109 #[.string ⟨l.toArray⟩] w fun e w'=>e=.returned (.bool (af l))∧w'=w:=(rn02 w l hm).mono fun _ _ h=>⟨h.1,h.2.symm⟩
theorem xe(c:UInt8): ∀s:List UInt8,∀t∈bF c s,t.length≤s.length
 |[],t,ht=>by simp[bF]at ht;simp[ht]
 |x::r,t,ht=>by
  have ih:=xe c r;rw[bF]at ht;split at ht
  ·rcases List.mem_cons.1 ht with rfl|ht;·simp
   ·have:=ih t ht;simp;omega
  ·rcases List.mem_cons.1 ht with rfl|ht;·cases hp:bF c r with|nil=>simp|cons a b=>have:=ih a (by rw[hp];simp);simp;omega
   ·have:=ih t (List.mem_of_mem_tail ht);simp;omega
theorem Js(s:List UInt8): ∀t∈eF s,t.length≤s.length:=fun t ht=>by
 rw[Cm]at ht;split at ht;·simp at ht
 ·have:=xe 44 _ t ht;have:=rq s;omega
theorem Fw(w:World)(s:List UInt8)(hs:s.length≤1000000000):Calls Tryz.prog 111 #[.string ⟨s.toArray⟩] w (Says (bG s) w):=by
 have kC:=qS (bG s=((Lib.cut s [59]).2.2&&af (Lib.cut s [59]).1&&decide ((eF s).length≤8)&&kM (eF s))) (rfl);have ku:=qS ((Lib.cut s [59]).2.2=decide (0≤Lib.index s [59])) (by unfold Lib.cut;split<;>simp[*]);have hcl:=uT s;have T9:=qH (Js s);go_enter Tryz.func111,Tryz.ntmps111;go_wp2_with fail;refine(qy w s hs).mono ?_;rintro r w1⟨rfl,rfl⟩;by_cases h0:0≤Lib.index s [59];case neg=>
  have HF:=qS (bG s=false) (by rw[kC.o,ku.o,decide_eq_false h0];rfl);have b0:Lib.index s [59]<0:=by omega
  clear h0;generalize Lib.index s [59]=ix at*;go_wp2;go_ret;exact⟨aa HF.o.symm,Below.refl _ _⟩
 have b0: ¬Lib.index s [59]<0:=by omega
 have Rc:=qS (bG s=(af (Lib.cut s [59]).1&&decide ((eF s).length≤8)&&kM (eF s))) (by rw[kC.o,ku.o,decide_eq_true h0];simp);clear h0 kC ku;generalize Lib.index s [59]=ix at*;go_wp2_with fail;refine(Fv w s hs).mono ?_;rintro r w1⟨rfl,rfl⟩;generalize(Lib.cut s [59]).1=mk at*;go_wp2_with fail;refine(rn02 w mk (by omega)).mono ?_;rintro r w1⟨rfl,rfl⟩;generalize af mk=nm at*;cases nm;·go_wp2;go_ret;exact⟨aa (by rw[Rc.o];rfl),Below.refl _ _⟩
 go_wp2_with fail;refine(JC w s hs).mono ?_;rintro q w2⟨A,c,rfl,hst,hb2⟩;have HS:=qH hst;clear hst;generalize eF s=ts at*;have hcm:ts.length≤9223372036854775807:=by have h1:=ax.cap HS.o;have h2:=ax.max HS.o;unfold maxLen at h2;omega
 go_wp2;go_loopw[4](fun i wr=>WL ts w2 i wr)(fun i _=>ts.length-(intOf i).toNat);case atStart=>exact⟨0,0,rfl,Nat.zero_le _,rfl,fun j h=>by omega⟩
 case round=>
  obtain⟨k,q,rfl,hk,rfl,HK⟩:=hrel;have hbq:Below w.heap.size w (w2.drewN q):=below_drewN hb2 q;have Uh:=qS (Strs (w2.drewN q) w2.heap.size A ts.length c ts) (HS.o.drewN q);have HQQ:=qS (∀m,∃q',(w2.drewN q).drewN m=w2.drewN q') (fun m=>⟨_,World.drewN_drewN ..⟩);generalize w2.drewN q=wr at*;by_cases hkn:k<ts.length
  ·obtain⟨b,off,rfl,hb,hc⟩:=Uh.o.at_ k hkn;have HB:=qS (pQ ts k=(af ts[k]&&(k==0||Op.bytesLess (ts.getD (k-1) []) ts[k]))) (by unfold pQ;simp[List.getD,List.getElem?_eq_getElem hkn]);have vK:=qS (pQ ts k=false→kM ts=false) (fun h=>by unfold kM;rw[List.all_eq_false];exact⟨k,by simpa using hkn,by simp[h]⟩);have yn:=qS (pQ ts k=true→ ∀j,j<k+1→pQ ts j=true) (fun h j hj=>by
    by_cases e:j=k;·subst e;exact h
    ·exact HK.o j (by omega));have kD:=qS (0<k→wr.cell? ⟨b,off+(k-1),none⟩=some (.string ⟨(ts.getD (k-1) []).toArray⟩)) (fun h0=>by obtain⟨b',off',e',_,hc'⟩:=Uh.o.at_ (k-1) (by omega);injection e' with e';injection e' with e1 e2;subst e1 e2;rw[hc'];simp[List.getD,List.getElem?_eq_getElem (show k-1<ts.length by omega)]);have htl:ts[k].length≤1000000000:=by have:=T9.o _ (List.getElem_mem hkn);omega
   generalize ts.getD (k-1) []=p at*;have t1:(k:Int)<ts.length:=by omega
   generalize ts[k]=t at*;have HQ:=qS (∀wx,Calls Tryz.prog 109 #[.string ⟨t.toArray⟩] wx fun e w'=>e=.returned (.bool (af t))∧w'=wx) (fun wx=>lL wx t htl);generalize af t=nt at*;cases nt;·have HF:=qH (vK.o (by rw[HB.o];rfl));go_wp2;go_quiet((go_at_call 109;exact Calls.quiet_of_same (HQ.o _)));go_wp2;go_ret;exact⟨aa (by rw[Rc.o,HF.o];simp),below_drewN hbq _⟩
   by_cases k0:k=0
   ·subst k0;rw[Nat.add_zero]at hc;have HY:=qH (yn.o (by rw[HB.o];rfl));go_wp2;go_quiet((go_at_call 109;exact Calls.quiet_of_same (HQ.o _)));go_wp2;go_roundw;case rel=>obtain⟨q',hq'⟩:=HQQ.o nq;exact⟨1,q',by go_num,by omega,hq',HY.o⟩
    case measure=>simp[intOf];omega
   ·have hc1:=kD.o (by omega);have k1:(0:Int)<k:=by omega
    have ek:(k:Int)-1=((k-1:Nat):Int):=by omega
    have kd:decide (0<(k:Int))=true:=decide_eq_true k1;have kd':decide (0<k)=true:=decide_eq_true (by omega);have kn:0<k:=by omega
    have sG:=qS (pQ ts k=Op.bytesLess p t) (by rw[HB.o];simp[k0]);cases hbl:Op.bytesLess p t;·have HF:=qH (vK.o (sG.o.trans hbl));go_wp2;go_quiet((go_at_call 109;exact Calls.quiet_of_same (HQ.o _)));go_wp2;go_ret;exact⟨aa (by rw[Rc.o,HF.o];simp),below_drewN hbq _⟩
    ·have HY:=qH (yn.o (sG.o.trans hbl));go_wp2;go_quiet((go_at_call 109;exact Calls.quiet_of_same (HQ.o _)));go_wp2;go_roundw;case rel=>obtain⟨q',hq'⟩:=HQQ.o nq;exact⟨k+1,q',by go_num,by omega,hq',HY.o⟩
     case measure=>simp[intOf];omega
  ·have HT:=qS (kM ts=true) (by
    unfold kM;rw[List.all_eq_true];intro j hj;exact HK.o j (by
     have:j<ts.length:=by simpa using hj
     omega));go_wp2;go_ret;exact⟨aa (by rw[Rc.o,HT.o];simp;omega),hbq⟩
theorem JI(w:World)(e:Ev)(hs:e.small)(hh:lQ e=true):Calls Tryz.prog 65 #[e.agg] w (Says (aK e) w):=by
 obtain⟨s1,s2,s3,s4⟩:=hs;have Aa:=qH hh;have hh':(af e.src&&decide (1≤e.num)&&decide (e.num≤1099511627776)&&decide (0≤e.at_)&&decide (e.at_≤1099511627776))=true:=hh;simp only[Bool.and_eq_true,decide_eq_true_eq]at hh';obtain⟨⟨⟨⟨hns,h1⟩,h2⟩,h3⟩,h4⟩:=hh';have OJ:=qH hns;have Sv:=qS ((decide (1≤e.num)&&decide (e.num≤1099511627776))=true) (by simp[h1,h2]);have HIA:=qS ((decide (0≤e.at_)&&decide (e.at_≤1099511627776))=true) (by simp[h3,h4]);clear hns hh h1 h2 h3 h4;unfold Ev.agg;go_enter Tryz.func65,Tryz.ntmps65;have hb:Below w.heap.size w (w.alloc (au e)):=(Below.refl _ _).alloc (Nat.le_refl _) _;obtain⟨f0,f1,f2,f3,f4,f5,f6,f7⟩:=eD.new w e;go_wp2_with fail;refine(lL _ e.src s1).mono ?_;rintro r w1⟨rfl,rfl⟩;rw[OJ.o];generalize w.alloc (au e)=w1 at*;generalize hke:e.kind=kd at*;have EX:=qH hke;clear hke;go_wp2_with fail;refine(mh w1 e.num 1 1099511627776).mono ?_;rintro r w2⟨rfl,hw2⟩;rw[hw2,Sv.o];clear hw2;go_wp2_with fail;refine(mh w1 e.at_ 0 1099511627776).mono ?_;rintro r w2⟨rfl,hw2⟩;rw[hw2,HIA.o];clear hw2;go_wp2;go_quiet(fail);have hbq:Below w.heap.size w (w1.drewN nq):=below_drewN hb nq;have g3:(w1.drewN nq).cell? ⟨w.heap.size,3,none⟩=_:=f3;have g4:(w1.drewN nq).cell? ⟨w.heap.size,4,none⟩=_:=f4;have g5:(w1.drewN nq).cell? ⟨w.heap.size,5,none⟩=_:=f5;have g6:(w1.drewN nq).cell? ⟨w.heap.size,6,none⟩=_:=f6;have g7:(w1.drewN nq).cell? ⟨w.heap.size,7,none⟩=_:=f7;clear f0 f1 f2 f3 f4 f5 f6 f7 hb;generalize w1.drewN nq=w2 at*;by_cases hx:kd<0∨14<kd;·have HT:=qS (aK e=false) (by unfold aK gG;rw[EX.o];rw[if_neg (by omega),if_neg (by omega),if_neg (by omega),if_neg (by omega),if_neg (by omega),if_neg (by omega),if_neg (by omega),if_neg (by omega),if_neg (by omega),if_neg (by omega),if_neg (by omega),if_neg (by omega),if_neg (by omega),if_neg (by omega),if_neg (by omega),Bool.and_false]);have hq: ∀j:Int,0≤j→j≤14→(kd==j)=false:=fun j _ _=>beq_eq_false_iff_ne.2 (by omega);have k0:=hq 0 (by decide) (by decide);have k1:=hq 1 (by decide) (by decide);have k2:=hq 2 (by decide) (by decide);have k3:=hq 3 (by decide) (by decide);have k4:=hq 4 (by decide) (by decide);have k5:=hq 5 (by decide) (by decide);have k6:=hq 6 (by decide) (by decide);have k7:=hq 7 (by decide) (by decide);have k8:=hq 8 (by decide) (by decide);have k9:=hq 9 (by decide) (by decide);have k10:=hq 10 (by decide) (by decide);have k11:=hq 11 (by decide) (by decide);have k12:=hq 12 (by decide) (by decide);have k13:=hq 13 (by decide) (by decide);have k14:=hq 14 (by decide) (by decide);clear hq hx;go_wp2;go_ret;exact⟨aa HT.o.symm,hbq⟩
 rcases(show(kd=0∨kd=1∨kd=2∨kd=3∨kd=5∨kd=6)∨(kd=4)∨(kd=7∨kd=8∨kd=9∨kd=10)∨(kd=11)∨(kd=12)∨(kd=13)∨(kd=14)by omega)with hk|hk|hk|hk|hk|hk|hk
 ·have HT:=qS (aK e=(af e.per&&af e.item&&e.text.isEmpty&&(e.val==0))) (by unfold aK gG;rw[Aa.o,EX.o];rcases hk with rfl|rfl|rfl|rfl|rfl|rfl<;>(simp;cases af e.per<;>cases af e.item<;>cases af e.text<;>cases bG e.text<;>cases e.per.isEmpty<;>cases e.item.isEmpty<;>cases e.text.isEmpty<;>simp));clear hx;rcases hk with rfl|rfl|rfl|rfl|rfl|rfl;all_goals
   go_wp2_with fail;refine(lL w2 e.per s2).mono ?_;rintro r w3⟨rfl,hw3⟩;rw[hw3];clear hw3;go_wp2_with fail;refine(lL w2 e.item s3).mono ?_;rintro r w3⟨rfl,hw3⟩;rw[hw3];clear hw3;generalize af e.per=b0 at*;generalize af e.item=b1 at*;generalize e.text.isEmpty=b2 at*;generalize(e.val==0)=b3 at*;cases b0;·go_wp2;go_ret;exact⟨aa (by rw[HT.o];rfl),hbq⟩
   cases b1;·go_wp2;go_ret;exact⟨aa (by rw[HT.o];rfl),hbq⟩
   cases b2;·go_wp2;go_ret;exact⟨aa (by rw[HT.o];rfl),hbq⟩
   cases b3;·go_wp2;go_ret;exact⟨aa (by rw[HT.o];rfl),hbq⟩
   go_wp2;go_ret;exact⟨aa (by rw[HT.o];rfl),hbq⟩
 ·have HT:=qS (aK e=(af e.per&&af e.item&&e.text.isEmpty&&(decide (1≤e.val)&&decide (e.val≤5)))) (by unfold aK gG;rw[Aa.o,EX.o];rw[hk];simp;cases af e.per<;>cases af e.item<;>cases af e.text<;>cases bG e.text<;>cases e.per.isEmpty<;>cases e.item.isEmpty<;>cases e.text.isEmpty<;>simp);subst hk;clear hx;go_wp2_with fail;refine(lL w2 e.per s2).mono ?_;rintro r w3⟨rfl,hw3⟩;rw[hw3];clear hw3;go_wp2_with fail;refine(lL w2 e.item s3).mono ?_;rintro r w3⟨rfl,hw3⟩;rw[hw3];clear hw3;go_wp2_with fail;refine(mh w2 e.val 1 5).mono ?_;rintro r w3⟨rfl,hw3⟩;rw[hw3];clear hw3;generalize af e.per=b0 at*;generalize af e.item=b1 at*;generalize e.text.isEmpty=b2 at*;generalize(decide (1≤e.val)&&decide (e.val≤5))=b3 at*;cases b0;·go_wp2;go_ret;exact⟨aa (by rw[HT.o];rfl),hbq⟩
  cases b1;·go_wp2;go_ret;exact⟨aa (by rw[HT.o];rfl),hbq⟩
  cases b2;·go_wp2;go_ret;exact⟨aa (by rw[HT.o];rfl),hbq⟩
  cases b3;·go_wp2;go_ret;exact⟨aa (by rw[HT.o];rfl),hbq⟩
  go_wp2;go_ret;exact⟨aa (by rw[HT.o];rfl),hbq⟩
 ·have HT:=qS (aK e=(af e.per&&e.item.isEmpty&&af e.text&&(e.val==0))) (by unfold aK gG;rw[Aa.o,EX.o];rcases hk with rfl|rfl|rfl|rfl<;>(simp;cases af e.per<;>cases af e.item<;>cases af e.text<;>cases bG e.text<;>cases e.per.isEmpty<;>cases e.item.isEmpty<;>cases e.text.isEmpty<;>simp));clear hx;rcases hk with rfl|rfl|rfl|rfl;all_goals
   go_wp2_with fail;refine(lL w2 e.per s2).mono ?_;rintro r w3⟨rfl,hw3⟩;rw[hw3];clear hw3;go_wp2_with fail;refine(lL w2 e.text s4).mono ?_;rintro r w3⟨rfl,hw3⟩;rw[hw3];clear hw3;generalize af e.per=b0 at*;generalize e.item.isEmpty=b1 at*;generalize af e.text=b2 at*;generalize(e.val==0)=b3 at*;cases b0;·go_wp2;go_ret;exact⟨aa (by rw[HT.o];rfl),hbq⟩
   cases b1;·go_wp2;go_ret;exact⟨aa (by rw[HT.o];rfl),hbq⟩
   cases b2;·go_wp2;go_ret;exact⟨aa (by rw[HT.o];rfl),hbq⟩
   cases b3;·go_wp2;go_ret;exact⟨aa (by rw[HT.o];rfl),hbq⟩
   go_wp2;go_ret;exact⟨aa (by rw[HT.o];rfl),hbq⟩
 ·have HT:=qS (aK e=(e.per.isEmpty&&af e.item&&bG e.text&&(decide (0≤e.val)&&decide (e.val≤1048576)))) (by unfold aK gG;rw[Aa.o,EX.o];rw[hk];simp;cases af e.per<;>cases af e.item<;>cases af e.text<;>cases bG e.text<;>cases e.per.isEmpty<;>cases e.item.isEmpty<;>cases e.text.isEmpty<;>simp);subst hk;clear hx;go_wp2_with fail;refine(lL w2 e.item s3).mono ?_;rintro r w3⟨rfl,hw3⟩;rw[hw3];clear hw3;go_wp2_with fail;refine(mh w2 e.val 0 1048576).mono ?_;rintro r w3⟨rfl,hw3⟩;rw[hw3];clear hw3;go_wp2_with fail;refine(Fw w2 e.text s4).mono ?_;rintro r w3⟨rfl,hb3⟩;have hbq3:Below w.heap.size w w3:=hbq.trans (hb3.mono hbq.size);clear hbq hb3;generalize e.per.isEmpty=b0 at*;generalize af e.item=b1 at*;generalize bG e.text=b2 at*;generalize(decide (0≤e.val)&&decide (e.val≤1048576))=b3 at*;clear g3 g4 g5 g6 g7;cases b0;·go_wp2;go_ret;exact⟨aa (by rw[HT.o];rfl),hbq3⟩
  cases b1;·go_wp2;go_ret;exact⟨aa (by rw[HT.o];rfl),hbq3⟩
  cases b2;·go_wp2;go_ret;exact⟨aa (by rw[HT.o];rfl),hbq3⟩
  cases b3;·go_wp2;go_ret;exact⟨aa (by rw[HT.o];rfl),hbq3⟩
  go_wp2;go_ret;exact⟨aa (by rw[HT.o];rfl),hbq3⟩
 ·have HT:=qS (aK e=(e.per.isEmpty&&af e.item&&e.text.isEmpty&&(decide (0≤e.val)&&decide (e.val≤1048576)))) (by unfold aK gG;rw[Aa.o,EX.o];rw[hk];simp;cases af e.per<;>cases af e.item<;>cases af e.text<;>cases bG e.text<;>cases e.per.isEmpty<;>cases e.item.isEmpty<;>cases e.text.isEmpty<;>simp);subst hk;clear hx;go_wp2_with fail;refine(lL w2 e.item s3).mono ?_;rintro r w3⟨rfl,hw3⟩;rw[hw3];clear hw3;go_wp2_with fail;refine(mh w2 e.val 0 1048576).mono ?_;rintro r w3⟨rfl,hw3⟩;rw[hw3];clear hw3;generalize e.per.isEmpty=b0 at*;generalize af e.item=b1 at*;generalize e.text.isEmpty=b2 at*;generalize(decide (0≤e.val)&&decide (e.val≤1048576))=b3 at*;cases b0;·go_wp2;go_ret;exact⟨aa (by rw[HT.o];rfl),hbq⟩
  cases b1;·go_wp2;go_ret;exact⟨aa (by rw[HT.o];rfl),hbq⟩
  cases b2;·go_wp2;go_ret;exact⟨aa (by rw[HT.o];rfl),hbq⟩
  cases b3;·go_wp2;go_ret;exact⟨aa (by rw[HT.o];rfl),hbq⟩
  go_wp2;go_ret;exact⟨aa (by rw[HT.o];rfl),hbq⟩
 ·have HT:=qS (aK e=(e.per.isEmpty&&af e.item&&e.text.isEmpty&&(e.val==0))) (by unfold aK gG;rw[Aa.o,EX.o];rw[hk];simp;cases af e.per<;>cases af e.item<;>cases af e.text<;>cases bG e.text<;>cases e.per.isEmpty<;>cases e.item.isEmpty<;>cases e.text.isEmpty<;>simp);subst hk;clear hx;go_wp2_with fail;refine(lL w2 e.item s3).mono ?_;rintro r w3⟨rfl,hw3⟩;rw[hw3];clear hw3;generalize e.per.isEmpty=b0 at*;generalize af e.item=b1 at*;generalize e.text.isEmpty=b2 at*;generalize(e.val==0)=b3 at*;cases b0;·go_wp2;go_ret;exact⟨aa (by rw[HT.o];rfl),hbq⟩
  cases b1;·go_wp2;go_ret;exact⟨aa (by rw[HT.o];rfl),hbq⟩
  cases b2;·go_wp2;go_ret;exact⟨aa (by rw[HT.o];rfl),hbq⟩
  cases b3;·go_wp2;go_ret;exact⟨aa (by rw[HT.o];rfl),hbq⟩
  go_wp2;go_ret;exact⟨aa (by rw[HT.o];rfl),hbq⟩
 ·have HT:=qS (aK e=(af e.per&&e.item.isEmpty&&e.text.isEmpty&&(e.val==0))) (by unfold aK gG;rw[Aa.o,EX.o];rw[hk];simp;cases af e.per<;>cases af e.item<;>cases af e.text<;>cases bG e.text<;>cases e.per.isEmpty<;>cases e.item.isEmpty<;>cases e.text.isEmpty<;>simp);subst hk;clear hx;go_wp2_with fail;refine(lL w2 e.per s2).mono ?_;rintro r w3⟨rfl,hw3⟩;rw[hw3];clear hw3;generalize af e.per=b0 at*;generalize e.item.isEmpty=b1 at*;generalize e.text.isEmpty=b2 at*;generalize(e.val==0)=b3 at*;cases b0;·go_wp2;go_ret;exact⟨aa (by rw[HT.o];rfl),hbq⟩
  cases b1;·go_wp2;go_ret;exact⟨aa (by rw[HT.o];rfl),hbq⟩
  cases b2;·go_wp2;go_ret;exact⟨aa (by rw[HT.o];rfl),hbq⟩
  cases b3;·go_wp2;go_ret;exact⟨aa (by rw[HT.o];rfl),hbq⟩
  go_wp2;go_ret;exact⟨aa (by rw[HT.o];rfl),hbq⟩
theorem JJ(w:World)(e:Ev)(hs:e.small)(hh:lQ e=false):Calls Tryz.prog 65 #[e.agg] w (Says (aK e) w):=by
 obtain⟨s1,s2,s3,s4⟩:=hs;have HT:=qS (aK e=false) (by unfold aK;rw[hh];rfl);have HH:=qS ((af e.src&&(decide (1≤e.num)&&decide (e.num≤1099511627776))&&(decide (0≤e.at_)&&decide (e.at_≤1099511627776)))=false) (by rw[←hh];unfold lQ;simp only[Bool.and_assoc]);clear hh;unfold Ev.agg;go_enter Tryz.func65,Tryz.ntmps65;have hb:Below w.heap.size w (w.alloc (au e)):=(Below.refl _ _).alloc (Nat.le_refl _) _;obtain⟨f0,f1,f2,f3,f4,f5,f6,f7⟩:=eD.new w e;go_wp2_with fail;refine(lL _ e.src s1).mono ?_;rintro r w1⟨rfl,rfl⟩;generalize w.alloc (au e)=w1 at*;generalize af e.src=b0 at*;cases b0;·go_wp2;go_ret;exact⟨aa HT.o.symm,hb⟩
 go_wp2_with fail;refine(mh w1 e.num 1 1099511627776).mono ?_;rintro r w2⟨rfl,hw2⟩;rw[hw2];clear hw2;generalize(decide (1≤e.num)&&decide (e.num≤1099511627776))=b1 at*;cases b1;·go_wp2;go_ret;exact⟨aa HT.o.symm,hb⟩
 go_wp2_with fail;refine(mh w1 e.at_ 0 1099511627776).mono ?_;rintro r w2⟨rfl,hw2⟩;rw[hw2];clear hw2;generalize(decide (0≤e.at_)&&decide (e.at_≤1099511627776))=b2 at*;cases b2;·go_wp2;go_ret;exact⟨aa HT.o.symm,hb⟩
 ·have:=HH.o;simp at this
theorem CL(w:World)(e:Ev)(hs:e.small):Calls Tryz.prog 65 #[e.agg] w (Says (aK e) w):=by
 cases hh:lQ e;·exact JJ w e hs hh
 ·exact JI w e hs hh
end Go.Proofs.YtladegonienapaaGreatDoor
