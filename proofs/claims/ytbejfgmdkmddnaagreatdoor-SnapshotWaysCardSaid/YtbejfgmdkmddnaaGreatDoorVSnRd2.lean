/-
  Layer 30: any bytes, read: events.
-/
import Derived.Test.YtbejfgmdkmddnaaGreatDoorVRg3
set_option maxRecDepth 100000
set_option maxHeartbeats 16000000
namespace Go.Proofs.YtbejfgmdkmddnaaGreatDoor
open Go.RowKit Go.Maps Go.Sort
def gp(l:List UInt8):List Int:=l.map fun u=>(u.toNat:Int)
theorem jk(l:List UInt8):Lib.bytesOf (gp l)=l:=by
 unfold Lib.bytesOf gp;rw[List.map_map];conv=>rhs;rw[←List.map_id l]
 exact List.map_congr_left fun u _=>by simp
theorem Fw(l:List UInt8)(i:Nat)(hi:i<l.length):(gp l).getD i 0=(l[i].toNat:Int):=by unfold gp;rw[List.getD_eq_getElem?_getD,List.getElem?_map,List.getElem?_eq_getElem hi];rfl
theorem bU.bin{w:World}{B n c:Nat}{A:Option Addr}{l:List UInt8}(h:bU w B A n c l):Lib.BytesIn w A n (gp l):=fun hn=>by obtain⟨b,off,e,_,hc⟩:=h.cell hn;exact⟨b,off,e,fun i hi=>by have hl:=h.len;rw[Fw l i (by omega)];exact hc i (by omega)⟩
theorem PX(w:World)(B:Nat)(A:Option Addr)(n c:Nat)(l:List UInt8)(h:bU w B A n c l)(hA:A=none→c=0)(x:UInt8):Calls Tryz.prog 99 #[.slice A n c,.int .u8 x.toNat] w fun e w'=>e=.returned (.int .i64 (Lib.indexByte l x))∧w'=w:=by
 have hl:=h.len;have hcap:=h.cap;have hx:(x.toNat:Int).toNat.toUInt8=x:=by simp
 cases A with
  |none=>
   obtain rfl:=hA rfl;obtain rfl:n=0:=by omega
   have:l=[]:=List.eq_nil_of_length_eq_zero hl;subst this;exact Tryz.bytes_IndexByte_nil _ w
  |some a=>have h1:=Tryz.bytes_IndexByte_at a n c (gp l) x.toNat w (by unfold gp;rw[List.length_map];exact hl) (fun i hi=>by obtain⟨b,off,e,_,hc⟩:=h.cell (by omega);injection e with e;subst e;rw[Fw l i (by omega)];have:=hc i (by omega);rw[Go.WideShapes.add_plain];exact this);rw[jk,hx]at h1;exact h1
structure xq(W:World)(B bb bo:Nat)(s:Sn):Prop where
 b: ∃A n c,W.heap[bb]?=some (fB (.slice A n c))∧bU W B A n c s.b∧(A=none→c=0)
 ok:W.heap[bo]?=some (jc s.ok)
 hb:B≤bb
 ho:B≤bo
 ne:bb≠bo
 num:s.b.length≤1000000000
def bC(bb bo:Nat)(W W':World):Prop:=ak (fun q=>q=bb∨q=bo) W W'
section
variable{W W':World}{B bb bo:Nat}{s:Sn}
theorem xq.lt(h:xq W B bb bo s):bb<W.heap.size∧bo<W.heap.size:=by obtain⟨A,n,c,h1,_⟩:=h.b;exact⟨(Array.getElem?_eq_some_iff.1 h1).1,(Array.getElem?_eq_some_iff.1 h.ok).1⟩
theorem xq.up(h:xq W B bb bo s)(hb:Below W.heap.size W W'):xq W' B bb bo s:=by obtain⟨l1,l2⟩:=h.lt;obtain⟨A,n,c,h1,h2,h3⟩:=h.b;have:=h.hb;exact⟨⟨A,n,c,(hb.block _ l1).trans h1,h2.below (hb.mono (by omega)),h3⟩,(hb.block _ l2).trans h.ok,h.hb,h.ho,h.ne,h.num⟩
theorem xq.set(h:xq W B bb bo s){A:Option Addr}{n c:Nat}{r:List UInt8}(hr:bU W B A n c r)(hA:A=none→c=0)(hn:r.length≤1000000000):xq (W.setCell ⟨bb,0,none⟩ (.slice A n c)) B bb bo ⟨r,s.ok⟩:=by obtain⟨A',n',c',h1,h2,h3⟩:=h.b;exact⟨⟨A,n,c,af h1,hr.setCell h.hb _,hA⟩,(Below.heap_setCell _ _ _ _ (fun e=>h.ne e.symm)).trans h.ok,h.hb,h.ho,h.ne,hn⟩
theorem xq.bad(h:xq W B bb bo s):xq (W.setCell ⟨bo,0,none⟩ (.bool false)) B bb bo ⟨s.b,false⟩:=by obtain⟨A,n,c,h1,h2,h3⟩:=h.b;exact⟨⟨A,n,c,(Below.heap_setCell _ _ _ _ h.ne).trans h1,h2.setCell h.ho _,h3⟩,af h.ok,h.hb,h.ho,h.ne,h.num⟩
theorem bC.refl(W:World):bC bb bo W W:=ak.refl _ W
theorem bC.trans{W1 W2 W3:World}(h:bC bb bo W1 W2)(h':bC bb bo W2 W3):bC bb bo W1 W3:=ak.trans h h' (fun _ _ h=>h)
theorem bC.below(h:Below W.heap.size W W'):bC bb bo W W':=ak.of_below h
theorem bC.b(h:bC bb bo W W')(u:Value):bC bb bo W (W'.setCell ⟨bb,0,none⟩ u):=ak.setCell (p:=⟨bb,0,none⟩) h (fun _=>.inl rfl) u
theorem bC.o(h:bC bb bo W W')(u:Value):bC bb bo W (W'.setCell ⟨bo,0,none⟩ u):=ak.setCell (p:=⟨bo,0,none⟩) h (fun _=>.inr rfl) u
end
def vJ(W:World)(B bb bo:Nat)(s:Sn)(e:Ending)(W':World):Prop:=e=.returned (.string ⟨(iB s).toArray⟩)∧xq W' B bb bo (qF s)∧bC bb bo W W'
theorem DY(W:World)(B bb bo:Nat)(s:Sn)(h:xq W B bb bo s):Calls Tryz.prog 98 #[.pointer (some ⟨bb,0,none⟩),.pointer (some ⟨bo,0,none⟩)] W (vJ W B bb bo s):=by
 obtain⟨A,n,c,h1,h2,h3⟩:=h.b;have Nl:=qS (Calls Tryz.prog 99 #[.slice A n c,.int .u8 10] W (fun e w'=>e=.returned (.int .i64 (Lib.indexByte s.b 10))∧w'=W)) (PX W B A n c s.b h2 h3 10);have c0:W.cell? ⟨bb,0,none⟩=some (.slice A n c):=(cell_of_row W bb 0 _ _ (0,0) h1).trans rfl;have f0:=frozen_of_row W bb 0 _ _ h1;have c1:W.cell? ⟨bo,0,none⟩=some (.bool s.ok):=(cell_of_row W bo 0 _ _ (0,0) h.ok).trans rfl;have f1:=frozen_of_row W bo 0 _ _ h.ok;have HB:=qH h2;have HS:=qH h;have hl:=h2.len;have Sr:=h.num;have hcap:=h2.cap;have hmax:=h2.max;rcases jB 10 s.b with hm|⟨x,y,hxy,hx⟩
 ·have hv:Lib.indexByte s.b 10= -1:=CG 10 s.b hm;rw[hv]at Nl;have HF:=qS (vJ W B bb bo s (.returned (.string ⟨#[]⟩)) (W.setCell ⟨bo,0,none⟩ (.bool false))) (by unfold vJ iB qF;rw[nA 10 s.b hm];exact⟨rfl,HS.o.bad,(bC.refl W).o _⟩);clear h h1 h2 hv hm h3;go_enter Tryz.func98,Tryz.ntmps98;go_wp2_with fail;with_reducible refine Nl.o.mono ?_
  rintro r w1⟨rfl,rfl⟩;go_wp2;go_ret;exact HF.o
 ·have hv:Lib.indexByte s.b 10=(x.length:Int):=by rw[hxy];exact CJ 10 x y hx
  rw[hv]at Nl;have hll:s.b.length=x.length+1+y.length:=by rw[hxy];simp;omega
  obtain⟨d,off,rfl,hd,_⟩:=h2.cell (by omega);have HT:=qH (h2.tail (x.length+1) (by omega));have hdr:s.b.drop (x.length+1)=y:=by rw[hxy];simp
  have htk:s.b.take x.length=x:=by rw[hxy];simp
  have HST:=qH (h2.take x.length (by omega));rw[htk]at HST;rw[hdr]at HT;have hst:=HST.o.str (P:=Tryz.prog) 32 5 9 Tryz.underlying32 Tryz.underlying5 Tryz.underlying9;have HF:=qS (∀A2 c2,bU W B A2 (n-(x.length+1)) c2 y→(A2=none→c2=0)→vJ W B bb bo s (.returned (.string ⟨x.toArray⟩)) (W.setCell ⟨bb,0,none⟩ (.slice A2 (n-(x.length+1)) c2))) (fun A2 c2 g1 g2=>by
   obtain⟨t1,t2⟩:=BV x y s.ok hx;have e:s=⟨x++10::y,s.ok⟩:=by rw[←hxy]
   rw[←e]at t1 t2;unfold vJ;rw[t1,t2];exact⟨rfl,HS.o.set g1 g2 (by omega),(bC.refl W).b _⟩);have hzn:x.length+1≤n:=by omega
  generalize hz:x.length=z at*;clear h h1 h2 hv hx h3 hxy hdr htk HST hll;go_enter Tryz.func98,Tryz.ntmps98;go_wp2_with fail;with_reducible refine Nl.o.mono ?_
  rintro r w1⟨rfl,rfl⟩;have ZR:=qS (vJ w1 B bb bo s (.returned (.string ⟨x.toArray⟩)) (w1.setCell ⟨bb,0,none⟩ (if c=z+1 then .slice (some ⟨d,off,none⟩) (n-(z+1)) (c-(z+1))else .slice (some ⟨d,off+(z+1),none⟩) (n-(z+1)) (c-(z+1))))) (by
   have g:=HT.o;split<;>rename_i hc;·rw[if_pos hc]at g;exact HF.o _ _ g (fun e=>by cases e)
   ·rw[if_neg hc]at g;exact HF.o _ _ g (fun e=>by cases e));clear HF HT;have t1:(z:Int)+1≤n:=by omega
  by_cases hcz:c=z+1
  ·rw[if_pos hcz]at ZR;obtain rfl:n=z+1:=by omega
   subst hcz;simp only[Nat.sub_self]at ZR;go_wp2;go_ret;exact ZR.o
  ·rw[if_neg hcz]at ZR;go_wp2;go_ret;exact ZR.o
theorem Kq(w:World)(l:List UInt8)(hl:l.length≤1000000000): ∃c w',(convert 9 32 (.string ⟨l.toArray⟩)).run Tryz.prog w=.ok (.slice (some ⟨w.heap.size,0,none⟩) l.length c) w'∧bU w' w'.heap.size (some ⟨w.heap.size,0,none⟩) l.length c l∧Below w.heap.size w w':=by
 have hz:(⟨l.toArray⟩:ByteArray).size=l.length:=by simp[ByteArray.size]
 have h1:=Lib.run_convert_string_bytes (P:=Tryz.prog) w 9 32 5 ⟨l.toArray⟩ Tryz.underlying9 Tryz.underlying32 Tryz.underlying5;rw[hz]at h1;refine⟨_,_,h1,⟨rfl,grownCap_ge _ _ _ _,grownCap_le_maxLen _ _ _ _ (by unfold maxLen;omega),fun _=>⟨w.heap.size,0,rfl,by rw[Lib.bytesWorld_size];omega,fun i hi=>?_⟩⟩,Lib.bytesWorld_below w _ _⟩;have h2:=Lib.bytesWorld_cell w 5 ⟨l.toArray⟩ i (by rw[hz];exact hi);rw[Nat.zero_add,h2];simp[List.getD,hi]
theorem PL(w:World)(B1 B2 b o n c m d:Nat)(p2:Option Addr)(l l2:List UInt8)(h1:bU w B1 (some ⟨b,o,none⟩) n c l)(h2:bU w B2 p2 m d l2)(hne:l2≠[]):Calls Tryz.prog 101 #[.slice (some ⟨b,o,none⟩) n c,.slice p2 m d] w fun e w'=> ∃A' n' c',e=.returned (.tuple #[.slice A' n' c',.bool (Lib.hasPrefix l l2)])∧bU w B1 A' n' c' (if Lib.hasPrefix l l2 then l.drop m else l)∧w'=w:=by
 have hl2:=h2.len;have h:=Tryz.bytes_CutPrefix_all (some ⟨b,o,none⟩) p2 n c m d (gp l) (gp l2) w (by unfold gp;rw[List.length_map];exact h1.len) (by unfold gp;rw[List.length_map];exact hl2) h1.cap h1.bin h2.bin;rw[jk,jk]at h;refine h.mono ?_;rintro e w'⟨rfl,rfl⟩;obtain⟨y,ys,hy⟩: ∃y ys,gp l2=y::ys:=by cases l2 with|nil=>exact absurd rfl hne|cons y ys=>exact⟨_,_,rfl⟩
 have hv:Lib.trimPrefixV (some ⟨b,o,none⟩) n c (gp l) (gp l2)=Lib.bytesTrimPrefix b o n c (gp l) (gp l2):=by rw[hy];rfl
 have hil:(gp l2).length=m:=by unfold gp;rw[List.length_map];exact hl2
 rw[hv];unfold Lib.bytesTrimPrefix;rw[jk,jk,hil];cases hp:Lib.hasPrefix l l2;·exact⟨_,_,_,rfl,h1,rfl⟩
 ·have hle:=Lib.hasPrefix_le hp;have ht:=h1.tail m (by have:=h1.len;omega);simp only[if_true];unfold Lib.sliceFrom;split<;>rename_i hc;·rw[if_pos hc]at ht;exact⟨_,_,_,rfl,ht,by first|rfl|trivial⟩
  ·rw[if_neg hc]at ht;exact⟨_,_,_,rfl,ht,by first|rfl|trivial⟩
abbrev xS(bb bo:Nat):Obj:=.cells #[.func (Fn.func 98) #[] #[.pointer (some ⟨bb,0,none⟩),.pointer (some ⟨bo,0,none⟩)]] 64
def zw(W:World)(B bb bo:Nat)(ws:List UInt8)(s:Sn)(e:Ending)(W':World):Prop:=e=.returned (.int .i64 (gL ws s))∧xq W' B bb bo (iJ ws s)∧bC bb bo W W'
theorem rC(W:World)(B bb bo bt:Nat)(s:Sn)(h:xq W B bb bo s)(ht:W.heap[bt]?=some (xS bb bo))(ws:List UInt8)(hws:ws.length≤1000)(xB: ∀W',bC bb bo W W'→dV W'):Calls Tryz.prog 100 #[.string ⟨ws.toArray⟩,.pointer (some ⟨bt,0,none⟩),.pointer (some ⟨bo,0,none⟩)] W (zw W B bb bo ws s):=by
 have HTI:=qH (DY W B bb bo s h);have c0:W.cell? ⟨bt,0,none⟩=some (.func (Fn.func 98) #[] #[.pointer (some ⟨bb,0,none⟩),.pointer (some ⟨bo,0,none⟩)]):=(cell_of_row W bt 0 _ _ (0,0) ht).trans rfl;have htv:(iB s).length≤1000000000:=by
  have:=h.num;unfold iB;split
  ·rcases jB 10 s.b with h1|⟨x,y,hxy,h1⟩;·rw[nA 10 s.b h1];exact this
   ·rw[hxy,mh 10 x y h1];have h2:=congrArg List.length hxy;simp at h2⊢;omega
  ·simp
 have ZB:=qS (iJ ws s=(if zT ws (iB s)then qF s else⟨(qF s).b,false⟩)∧gL ws s=(if zT ws (iB s)then dQ (LZ ws (iB s))else 0)∧zT ws (iB s)=(Lib.hasPrefix (iB s) (ws++[32])&&kr (LZ ws (iB s))&&!decide (dQ (LZ ws (iB s))<0))∧LZ ws (iB s)=(if Lib.hasPrefix (iB s) (ws++[32])then(iB s).drop (ws.length+1)else iB s)) (⟨rfl,rfl,rfl,rfl⟩);have JD:=qH xB;clear h ht xB;go_enter Tryz.func100,Tryz.ntmps100;go_wp2_with fail;with_reducible refine HTI.o.mono ?_
 rintro r W1⟨rfl,h1,hk1⟩;have ky:=qH h1;have zJ:=qH hk1;generalize iB s=t at*;generalize qF s=T at*;obtain⟨ct,W2,hr2,hby2,hb2⟩:=Kq W1 t htv;obtain⟨cw,W3,hr3,hby3,hb3⟩:=Kq W2 (ws++[32]) (by simp;omega);have HB2:=qH (hby2.below hb3);have HB3:=qH hby3;have Nb:=qH ((ky.o.up hb2).up hb3);have BR:=qH (zJ.o.trans (bC.below (hb2.trans (hb3.mono hb2.size))));have hwl:(ws++[32]).length=ws.length+1:=by simp
 have hstr:(⟨ws.toArray⟩:ByteArray)++(⟨#[32]⟩:ByteArray)=⟨(ws++[32]).toArray⟩:=by apply ByteArray.ext;simp
 have HCP:=qH (PL W3 _ _ _ _ _ _ _ _ _ t (ws++[32]) HB2.o HB3.o (by simp));rw[hwl]at HCP;clear hby2 hby3 hb2 hb3 HTI h1 hk1 c0 ky zJ;go_wp2_with fail;with_reducible refine HCP.o.mono ?_
 rintro r w4⟨A',n',c',rfl,hby4,rfl⟩;obtain⟨e1,e2,e3,e4⟩:=ZB.o;rw[←e4]at hby4;have hxl:(LZ ws t).length≤1000000000:=by
  rw[e4];split;·rw[List.length_drop];omega
  ·exact htv
 have HA:=qH (zk w4 (LZ ws t) hxl (JD.o _ BR.o));have hst:=hby4.str (P:=Tryz.prog) 32 5 9 Tryz.underlying32 Tryz.underlying5 Tryz.underlying9;have qD:=qH e1;have HE2:=qH e2;have zL:=qH e3;clear e1 e2 e3 e4 ZB hby4 HCP hr2 hr3 HB2 HB3 JD;generalize LZ ws t=x at*;generalize Lib.hasPrefix t (ws++[32])=fb at*;generalize zT ws t=okb at*;go_wp2_with fail;with_reducible refine HA.o.mono ?_
 rintro r w5⟨ev,rfl,hev,hb5⟩;have xK:=qH (Nb.o.up hb5);have xM:=qH (BR.o.trans (bC.below hb5));clear hst HA Nb BR hb5;have f1:=frozen_of_row w5 bo 0 _ _ xK.o.ok;have c1:w5.cell? ⟨bo,0,none⟩=some (.bool T.ok):=(cell_of_row w5 bo 0 _ _ (0,0) xK.o.ok).trans rfl;have HBAD:=qS (okb=false→zw W B bb bo ws s (.returned (.int .i64 0)) (w5.setCell ⟨bo,0,none⟩ (.bool false))) (fun e=>by unfold zw;rw[qD.o,HE2.o,e];exact⟨rfl,xK.o.bad,xM.o.o _⟩);cases fb;·have HF:=qH (HBAD.o (by rw[zL.o];rfl));clear hev HBAD;go_wp2;go_ret;exact HF.o
 cases hae:kr x;·rw[hae]at hev zL;obtain⟨tt,pp,rfl⟩:=hev;have HF:=qH (HBAD.o (by rw[zL.o];rfl));clear HBAD;go_wp2;go_ret;exact HF.o
 rw[hae]at hev zL;obtain rfl:ev=.nilIface:=hev;by_cases hn:dQ x<0;·have HF:=qH (HBAD.o (by rw[zL.o,decide_eq_true hn];rfl));clear HBAD;go_wp2;go_ret;exact HF.o
 ·have HF:=qS (zw W B bb bo ws s (.returned (.int .i64 (dQ x))) w5) (by unfold zw;rw[qD.o,HE2.o,show okb=true by rw[zL.o,decide_eq_false hn];rfl];exact⟨rfl,xK.o,xM.o⟩);clear HBAD;go_wp2;go_ret;exact HF.o
abbrev Bh(bt bo:Nat):Obj:=.cells #[.func (Fn.func 100) #[] #[.pointer (some ⟨bt,0,none⟩),.pointer (some ⟨bo,0,none⟩)]] 126
theorem Cu(ws:List UInt8)(s:Sn):0≤gL ws s:=by
 unfold gL;split;·rename_i h;unfold zT at h;simp only[Bool.and_eq_true,Bool.not_eq_true',decide_eq_false_iff_not]at h;omega
 ·exact Int.le_refl _
theorem Tc{l:List UInt8}{v:Int}(h:Lib.atoiAll l=.ok v):v≤9223372036854775807:=by
 cases l with
  |nil=>cases h
  |cons c r=>
   unfold Lib.atoiAll at h;simp only at h;split at h;·cases h
   ·cases h
   ·split at h;·cases h
    ·split at h;·cases h
     ·rename_i u _ h1 h2;injection h with h;rw[←h];split;·omega
      ·rename_i h3;have: ¬9223372036854775808≤u:=fun h4=>h1 ⟨h3,h4⟩;omega
theorem J5(ws:List UInt8)(s:Sn):gL ws s≤9223372036854775807:=by
 unfold gL;split;·rename_i h;unfold zT kr at h;unfold dQ;cases ha:Lib.atoiAll (LZ ws (iB s))with|ok v=>exact Tc ha|range=>simp[ha]at h|_=>simp[ha]at h
 ·decide
def zq(W:World)(B bb bo:Nat)(ws:List UInt8)(s:Sn)(e:Ending)(W':World):Prop:= ∃A n c,e=.returned (.slice A n c)∧bU W' B A n c (Ce ws s)∧xq W' B bb bo (Cf ws s)∧bC bb bo W W'
theorem Hw(W:World)(B bb bo bt bl:Nat)(s:Sn)(h:xq W B bb bo s)(ht:W.heap[bt]?=some (xS bb bo))(hl:W.heap[bl]?=some (Bh bt bo))(ws:List UInt8)(hws:ws.length≤1000)(xB: ∀W',bC bb bo W W'→dV W'):Calls Tryz.prog 103 #[.string ⟨ws.toArray⟩,.pointer (some ⟨bl,0,none⟩),.pointer (some ⟨bb,0,none⟩),.pointer (some ⟨bo,0,none⟩)] W (zq W B bb bo ws s):=by
 have wZ:=qH (rC W B bb bo bt s h ht ws hws xB);have c0:W.cell? ⟨bl,0,none⟩=some (.func (Fn.func 100) #[] #[.pointer (some ⟨bt,0,none⟩),.pointer (some ⟨bo,0,none⟩)]):=(cell_of_row W bl 0 _ _ (0,0) hl).trans rfl;have su:=qS (Cf ws s=(if((iJ ws s).b.length:Int)<gL ws s then⟨(iJ ws s).b,false⟩else⟨(iJ ws s).b.drop (gL ws s).toNat,(iJ ws s).ok⟩)∧Ce ws s=(if((iJ ws s).b.length:Int)<gL ws s then[]else(iJ ws s).b.take (gL ws s).toNat)) (⟨rfl,rfl⟩);have hnn:=Cu ws s;clear h ht hl xB;go_enter Tryz.func103,Tryz.ntmps103;go_wp2_with fail;with_reducible refine wZ.o.mono ?_
 rintro r W1⟨rfl,h1,hk1⟩;have HS:=qH h1;have HK:=qH hk1;clear wZ c0 hk1;obtain⟨k,hk⟩: ∃k:Nat,gL ws s=k:=⟨(gL ws s).toNat,by omega⟩;rw[hk]at su;rw[hk];clear hnn hk;generalize iJ ws s=T at*;obtain⟨A,n,c,g1,g2,g3⟩:=h1.b;have hlen:=g2.len;have hcap:=g2.cap;have hmax:=g2.max;unfold maxLen at hmax;have Sr:=h1.num;have c0:W1.cell? ⟨bb,0,none⟩=some (.slice A n c):=(cell_of_row W1 bb 0 _ _ (0,0) g1).trans rfl;have f0:=frozen_of_row W1 bb 0 _ _ g1;have c1:W1.cell? ⟨bo,0,none⟩=some (.bool T.ok):=(cell_of_row W1 bo 0 _ _ (0,0) h1.ok).trans rfl;have f1:=frozen_of_row W1 bo 0 _ _ h1.ok;have HG:=qH g2;clear h1 g1;by_cases hkn:n<k
 ·have HF:=qS (zq W B bb bo ws s (.returned (.slice none 0 0)) (W1.setCell ⟨bo,0,none⟩ (.bool false))) (by
   have e:((T.b.length:Nat):Int)<(k:Int):=by omega
   unfold zq;rw[su.o.1,su.o.2,if_pos e,if_pos e];exact⟨none,0,0,rfl,bU.nil _ _ _ _ (Nat.zero_le _),HS.o.bad,HK.o.o _⟩);have t1:(n:Int)<k:=by omega
  clear su g2 hlen;go_wp2;go_ret;exact HF.o
 ·have GU:=qS (∀A2 n2 c2,bU W1 B A2 n2 c2 (T.b.drop k)→(A2=none→c2=0)→zq W B bb bo ws s (.returned (.slice A k c)) (W1.setCell ⟨bb,0,none⟩ (.slice A2 n2 c2))) (fun A2 n2 c2 q1 q2=>by
   have e: ¬((T.b.length:Nat):Int)<(k:Int):=by omega
   unfold zq;rw[su.o.1,su.o.2,if_neg e,if_neg e,Int.toNat_natCast];exact⟨A,k,c,rfl,(HG.o.take k (by omega)).setCell HS.o.hb _,HS.o.set q1 q2 (by rw[List.length_drop];omega),HK.o.b _⟩);have t1: ¬(n:Int)<k:=by omega
  cases A with
   |none=>
    obtain rfl:=g3 rfl;obtain rfl:n=0:=by omega
    obtain rfl:k=0:=by omega
    have HF:=qH (GU.o none 0 0 (by rw[List.drop_zero];exact HG.o) (fun _=>rfl));clear su g2 hlen GU;go_wp2;go_ret;exact HF.o
   |some a=>
    by_cases hn0:n=0
    ·subst hn0;obtain rfl:k=0:=by omega
     have HF1:=qH (GU.o (some a) 0 c (by rw[List.drop_zero];exact HG.o) (fun e=>by cases e));clear su g2 hlen GU;go_wp2;go_ret;exact HF1.o
    obtain⟨d,off,e,hd,_⟩:=g2.cell (by omega);injection e with e;subst e;have ht:=g2.tail k (by omega);by_cases hck:c=k
    ·rw[if_pos hck]at ht;obtain rfl:n=k:=by omega
     have HF:=qH (GU.o _ _ _ ht (fun e=>by cases e));subst hck;simp only[Nat.sub_self]at HF;clear su g2 hlen GU ht;go_wp2;go_ret;exact HF.o
    ·rw[if_neg hck]at ht;have HF:=qH (GU.o _ _ _ ht (fun e=>by cases e));clear su g2 hlen GU ht;go_wp2;go_ret;exact HF.o
theorem xq.NI{W W':World}{B bb bo b0:Nat}{s:Sn}(h:xq W B bb bo s)(hb:Below b0 W W')(h1:bb<b0)(h2:bo<b0):xq W' B bb bo s:=by obtain⟨A,n,c,g1,g2,g3⟩:=h.b;have:=h.hb;exact⟨⟨A,n,c,(hb.block _ h1).trans g1,g2.below (hb.mono (by omega)),g3⟩,(hb.block _ h2).trans h.ok,h.hb,h.ho,h.ne,h.num⟩
def rT(W:World)(B bb bo:Nat)(ws:List UInt8)(s:Sn)(e:Ending)(W':World):Prop:= ∃v,e=.returned v∧aP W' W.heap.size v (SI ws s)∧xq W' B bb bo (SK ws s)∧bC bb bo W W'
def Qg(W:World)(B bb bo N:Nat)(T:Sn)(lv i:Value)(wr:World):Prop:= ∃(k:Nat)(cur:Sn)(L:List Ev),i=.int .i64 k∧k≤N∧xq wr B bb bo cur∧aP wr W.heap.size lv L∧L.length+cur.b.length≤T.b.length∧xn (N-k) cur L=xn N T []∧bC bb bo W wr
theorem bC.size{W W':World}{bb bo:Nat}(h:bC bb bo W W'):W.heap.size≤W'.heap.size:=ak.size h
theorem bC.lo{W w2 w4:World}{bb bo:Nat}(h:bC bb bo W w2)(hb:Below W.heap.size w2 w4):bC bb bo W w4:=⟨hb.os.trans h.os,hb.tape.trans h.tape,hb.output.trans h.output,Nat.le_trans h.size hb.size,fun k hk hn=>(hb.block k hk).trans (ak.block h k hk hn)⟩
theorem l8{W:World}{base n size:Nat}{e:TypeId}{v:Value}{xs:List Value}(h:W.ownsRow base e size v n xs){p:Addr}(hp:p.block<base)(u:Value):(W.setCell p u).ownsRow base e size v n xs:=dK h fun b hb=>Below.heap_setCell _ _ _ _ (by have:=(World.ownsRow.lt h b hb).1;omega)
theorem LA(W:World)(B bb bo bt bl:Nat)(s:Sn)(h:xq W B bb bo s)(ht:W.heap[bt]?=some (xS bb bo))(hl:W.heap[bl]?=some (Bh bt bo))(ws:List UInt8)(hws:ws.length≤1000)(xB: ∀W',bC bb bo W W'→dV W')(hmx: ∀W',bC bb bo W W'→bf W'):Calls Tryz.prog 104 #[.string ⟨ws.toArray⟩,.pointer (some ⟨bl,0,none⟩),.pointer (some ⟨bb,0,none⟩),.pointer (some ⟨bo,0,none⟩)] W (rT W B bb bo ws s):=by
 have wZ:=qH (rC W B bb bo bt s h ht ws hws xB);have c0:W.cell? ⟨bl,0,none⟩=some (.func (Fn.func 100) #[] #[.pointer (some ⟨bt,0,none⟩),.pointer (some ⟨bo,0,none⟩)]):=(cell_of_row W bl 0 _ _ (0,0) hl).trans rfl;have Np:=qS (SK ws s=(xn (gL ws s).toNat (iJ ws s) []).2∧SI ws s=(xn (gL ws s).toNat (iJ ws s) []).1) (⟨rfl,rfl⟩);have hnn:=Cu ws s;have hnx:=J5 ws s;have jS:=qH hmx;obtain⟨hlb,hlo⟩:=h.lt;clear h ht hl xB hmx;obtain⟨i0,hi0,hz0,hz1,hz2⟩:=info_parts iM;have HIF:=qH hi0;have HZ0:=qH hz0;have HZ1:=qH hz1;have HZ2:=qH hz2;clear hi0 hz0 hz1 hz2;go_enter Tryz.func104,Tryz.ntmps104;go_wp2_with fail;with_reducible refine wZ.o.mono ?_
 rintro r W1⟨rfl,h1,hk1⟩;obtain⟨N,hN⟩: ∃N:Nat,gL ws s=N:=⟨(gL ws s).toNat,by omega⟩;rw[hN,Int.toNat_natCast]at Np;rw[hN];have TG:=qH h1.num;have Gt:=qS (Qg W B bb bo N (iJ ws s) (.slice none 0 0) (.int .i64 ((0:Nat):Int)) W1) (⟨0,iJ ws s,[],rfl,Nat.zero_le _,h1,World.ownsRow_nil _ _ _ _,by simp,rfl,hk1⟩);have hNx:N≤9223372036854775807:=by omega
 clear hnn hnx hN wZ c0 h1 hk1;generalize iJ ws s=T at*;go_wp2;go_loopw[6,13](fun lv i wr=>Qg W B bb bo N T lv i wr)(fun _ i _=>N-(intOf i).toNat);case atStart=>exact Gt.o
 case round=>
  obtain⟨k,cur,L,rfl,hk,hsb,hown,hlen,hev,hkp⟩:=hrel;have HS:=qH hsb;have HO:=qH hown;have HK:=qH hkp;have HE:=qH hev;obtain⟨Al,kl,rfl⟩:=ownsRow_form hown;obtain⟨A,n,c,g1,g2,g3⟩:=hsb.b;have Sr:=hsb.num;have hsz:=hkp.size;have c0:wr.cell? ⟨bb,0,none⟩=some (.slice A n c):=(cell_of_row wr bb 0 _ _ (0,0) g1).trans rfl;have hln:=g2.len;have HG:=qH g2;have NF:=qH g3;have abk:=qH g1;have hblt:=(Array.getElem?_eq_some_iff.1 g1).1;have hB:=hsb.hb;clear hsb hown hkp hev Gt g1 g2 g3;by_cases hkN:k<N
  ·have t1:(k:Int)<N:=by omega
   have Rm:=qH (IU wr A n c cur.b (HG.o.more (by omega)) (by omega) (jS.o _ HK.o));go_wp2_with fail;with_reducible refine Rm.o.mono ?_
   rintro r w2⟨hd,hb2⟩;have HS2:=qH (HS.o.up hb2);have dW:=qH (ownsRow_below HO.o hb2 (Nat.le_refl _));have qW:=qH (HK.o.trans (bC.below hb2));have hs2:=hb2.size;have c02:=(hb2.cell (p:=⟨bb,0,none⟩) (by show bb<_;omega)).trans c0;have HG2:=qH (HG.o.below (hb2.mono (by omega)));have bK:=qH ((hb2.block bb hblt).trans abk.o);clear Rm c0 hb2;obtain⟨q,hq⟩: ∃q,N-k=q+1:=⟨N-k-1,by omega⟩;have hev:=HE.o;rw[hq]at hev;simp only[xn]at hev;cases hde:pM cur.b with
    |ok e rest=>
     rw[hde]at hd hev;unfold Ev.agg at hd;obtain⟨k',rfl,hk',hdr⟩:=hd;obtain⟨hme,j,hj1,hj2,hj3⟩:=SQ hde;simp only at hev;have hrl:rest.length=n-j:=by rw[hj3,List.length_drop,hln]
     have hkj:k'=j:=by have h9:=congrArg List.length hdr;rw[List.length_drop,hln,hrl]at h9;omega
     subst hkj;obtain⟨d,off,hA,hd,_⟩:=HG2.o.cell (by omega);subst hA;have Jp:=qH (HG2.o.tail k' (by omega));rw[hdr]at Jp;have abf:=qH hev;have HI2:=qH (dO.new w2 e);have bJ:Below w2.heap.size w2 (w2.alloc (ai e)):=(Below.refl _ _).alloc (Nat.le_refl _) _;have uA:=qH bJ;have hsA:=bJ.size;have abz:w2.heap.size<(w2.alloc (ai e)).heap.size:=by simp
     have hn1:k'≤n:=by omega
     have hk1:1≤k':=by omega
     clear hde hdr hj3 hev bJ HE;go_upto_region 8 with fail;generalize w2.alloc (ai e)=w3 at*;obtain⟨e0,e1,e2,e3,e4,e5,e6,e7⟩:=HI2.o;have ow:=qH (ownsRow_below dW.o uA.o (Nat.le_refl _));go_wp2_with(at_builtin;refine av (P:=Tryz.prog) rfl (.tmp 23) (.tmp 25) 22 rfl 31 i0 _ 8 96 Tryz.underlying22 HIF.o HZ0.o HZ1.o HZ2.o rfl (by decide) W.heap.size _ L.length (aj L) rfl ?c1 (w3.heap.size+1) _ _ _ e.cells rfl ?c2 (cells_one e) ?c4 ?c5 ?c6 ?_);case c1=>exact World.ownsRow.alloc ow.o _
     case c2=>exact az.new w3 _ _ (by unfold maxLen;omega) rfl
     case c4=>unfold maxLen;have:=TG.o;omega
     case c5=>have:=TG.o;omega
     case c6=>first|omega|(simp;omega)
     intro v4 w4 ho4 hg4 hv4;have ho5:aP w4 W.heap.size v4 (L++[e]):=by unfold aP;rw[dD,List.length_append];exact ho4
     have hb4:Below W.heap.size w2 w4:=((uA.o.mono (by omega)).alloc (by omega) _).grown hg4 (by simp;omega) (fun b hb=>(World.ownsRow.lt ow.o b hb).1);have KR:=qH (HS2.o.NI hb4 hlb hlo);have lL:=qH (Jp.o.below (hb4.mono (by have:=HS2.o.hb;omega)));have xN:=qH (qW.o.lo hb4);obtain⟨A4,k4,aan⟩: ∃A k,v4=.slice A (L.length+1) k:=by obtain⟨A,k,h⟩:=ownsRow_form ho5;exact⟨A,k,by simpa using h⟩
     subst aan;have j5:=qH ho5;have g1:w4.heap[bb]?=some (fB (.slice (some ⟨d,off,none⟩) n c)):=(hb4.block bb hlb).trans bK.o;have c04:w4.cell? ⟨bb,0,none⟩=some (.slice (some ⟨d,off,none⟩) n c):=(cell_of_row w4 bb 0 _ _ (0,0) g1).trans rfl;have f04:=frozen_of_row w4 bb 0 _ _ g1;have HRR:=qS (∀A2 c2,bU w4 B A2 (n-k') c2 rest→(A2=none→c2=0)→Qg W B bb bo N T (.slice A4 (L.length+1) k4) (.int .i64 ((k+1:Nat):Int)) (w4.setCell ⟨bb,0,none⟩ (.slice A2 (n-k') c2))) (fun A2 c2 q1 q2=>⟨k+1,⟨rest,cur.ok⟩,L++[e],rfl,hkN,KR.o.set q1 q2 (by omega),l8 j5.o (p:=⟨bb,0,none⟩) hlb _,by rw[List.length_append,List.length_singleton];simp only;omega,by rw[show N-(k+1)=q by omega];exact abf.o,xN.o.b _⟩);clear ho4 ho5 hg4 hv4 e0 e1 e2 e3 e4 e5 e6 e7 g1 hb4 ow dW c02;by_cases hck:c=k'
     ·have h9:=lL.o;rw[if_pos hck]at h9;obtain rfl:n=k':=by have:=h9.len;have:=HG2.o.cap;omega
      have HF:=qH (HRR.o _ _ h9 (fun e=>by cases e));subst hck;simp only[Nat.sub_self]at HF;clear HRR h9 lL;go_wp2;go_roundw;case rel=>exact HF.o
      case measure=>simp[intOf];omega
     ·have h9:=lL.o;rw[if_neg hck]at h9;have HF:=qH (HRR.o _ _ h9 (fun e=>by cases e));clear HRR h9 lL;go_wp2;go_roundw;case rel=>exact HF.o
      case measure=>simp[intOf];omega
    |bz=>rw[hde]at hd hev;simp only at hev;unfold yZ at hd;subst hd;have HF:=qS (rT W B bb bo ws s (.returned (.slice none 0 0)) ((w2.alloc (ai ⟨[],0,0,0,[],[],0,[]⟩)).setCell ⟨bo,0,none⟩ (.bool false))) (by have bJ:Below w2.heap.size w2 (w2.alloc (ai ⟨[],0,0,0,[],[],0,[]⟩)):=(Below.refl _ _).alloc (Nat.le_refl _) _;unfold rT;rw[Np.o.1,Np.o.2,←hev];exact⟨_,rfl,World.ownsRow_nil _ _ _ _,(HS2.o.up bJ).bad,(qW.o.trans (bC.below bJ)).o _⟩);have bJ:Below w2.heap.size w2 (w2.alloc (ai ⟨[],0,0,0,[],[],0,[]⟩)):=(Below.refl _ _).alloc (Nat.le_refl _) _;have g1:=(HS2.o.up bJ).ok;have c1:(w2.alloc (ai ⟨[],0,0,0,[],[],0,[]⟩)).cell? ⟨bo,0,none⟩=some (.bool cur.ok):=(cell_of_row (w2.alloc (ai ⟨[],0,0,0,[],[],0,[]⟩)) bo 0 _ _ (0,0) g1).trans rfl;have f1:=frozen_of_row (w2.alloc (ai ⟨[],0,0,0,[],[],0,[]⟩)) bo 0 _ _ g1;clear hev hde bJ g1;go_upto_region 5 with fail;change Code.wp _ _ _ _ (w2.alloc (ai ⟨[],0,0,0,[],[],0,[]⟩));generalize w2.alloc (ai ⟨[],0,0,0,[],[],0,[]⟩)=w3 at*;go_wp2;go_ret;exact HF.o
    |form=>rw[hde]at hd hev;simp only at hev;unfold yZ at hd;subst hd;have HF:=qS (rT W B bb bo ws s (.returned (.slice none 0 0)) ((w2.alloc (ai ⟨[],0,0,0,[],[],0,[]⟩)).setCell ⟨bo,0,none⟩ (.bool false))) (by have bJ:Below w2.heap.size w2 (w2.alloc (ai ⟨[],0,0,0,[],[],0,[]⟩)):=(Below.refl _ _).alloc (Nat.le_refl _) _;unfold rT;rw[Np.o.1,Np.o.2,←hev];exact⟨_,rfl,World.ownsRow_nil _ _ _ _,(HS2.o.up bJ).bad,(qW.o.trans (bC.below bJ)).o _⟩);have bJ:Below w2.heap.size w2 (w2.alloc (ai ⟨[],0,0,0,[],[],0,[]⟩)):=(Below.refl _ _).alloc (Nat.le_refl _) _;have g1:=(HS2.o.up bJ).ok;have c1:(w2.alloc (ai ⟨[],0,0,0,[],[],0,[]⟩)).cell? ⟨bo,0,none⟩=some (.bool cur.ok):=(cell_of_row (w2.alloc (ai ⟨[],0,0,0,[],[],0,[]⟩)) bo 0 _ _ (0,0) g1).trans rfl;have f1:=frozen_of_row (w2.alloc (ai ⟨[],0,0,0,[],[],0,[]⟩)) bo 0 _ _ g1;clear hev hde bJ g1;go_upto_region 5 with fail;change Code.wp _ _ _ _ (w2.alloc (ai ⟨[],0,0,0,[],[],0,[]⟩));generalize w2.alloc (ai ⟨[],0,0,0,[],[],0,[]⟩)=w3 at*;go_wp2;go_ret;exact HF.o
  ·have t1: ¬(k:Int)<N:=by omega
   have HF:=qS (rT W B bb bo ws s (.returned (.slice Al L.length kl)) wr) (by have hev:=HE.o;rw[show N-k=0 by omega]at hev;simp only[xn]at hev;unfold rT;rw[Np.o.1,Np.o.2,←hev];exact⟨_,rfl,HO.o,HS.o,HK.o⟩);go_wp2;go_ret;exact HF.o
end Go.Proofs.YtbejfgmdkmddnaaGreatDoor
