/-
  Layer 2: the document's number, word.
-/
import Derived.Test.YtbejfgmdkmddnaaGreatDoorVSnW
set_option maxRecDepth 100000
set_option maxHeartbeats 16000000
namespace Go.Proofs.YtbejfgmdkmddnaaGreatDoor
open Go.RowKit Go.Maps Go.Sort
def MZ(w:World)(l:List UInt8)(e:Ending)(w':World):Prop:= ∃v,e=.returned v∧aK w' w.heap.size v l∧RowKit.Below w.heap.size w w'
theorem own0(w:World):aK (w.alloc (.cells #[] 5)) w.heap.size (.slice (some ⟨w.heap.size,0,none⟩) 0 0) []:=⟨rfl,.inr ⟨w.heap.size,0,#[],rfl,Nat.le_refl _,heap_alloc_new w _,Nat.le_refl _,by unfold maxLen;omega,rfl,rfl⟩⟩
theorem oZ(w:World)(n:Nat)(hn:n<4611686018427387904):Calls Tryz.prog 217 #[.int .i64 n] w (MZ w (aJ n)):=by
 have hn8:=uT hn;go_enter Tryz.func217,Tryz.ntmps217;go_wp2;go_loopw[0,3](fun q v wr=> ∃(m:Nat)(l:List UInt8),q=.int .i64 m∧m<4611686018427387904∧l++aJ m=aJ n∧aK wr w.heap.size v l∧RowKit.Below w.heap.size w wr)(fun q _ _=>(intOf q).toNat);case atStart=>exact⟨n,[],rfl,hn,rfl,own0 w,(Below.refl _ _).alloc (Nat.le_refl _) _⟩
 case round=>
  obtain⟨q,l',rfl,hq,hL,ho,hb⟩:=hrel;have HL:=qH hL;have HO:=qH ho;have HB:=qH hb;have hl':l'.length≤9:=by have:=congrArg List.length hL;simp at this;omega
  clear hL ho hb;have hsz:=HB.o.size;by_cases hlo:q<128
  ·have t1: ¬(127:Int)<q:=by omega
   have HN:=qS (aJ n=l'++[UInt8.ofNat q]) (by rw[←HL.o,jK hlo]);go_wp2_with(at_builtin;refine aG rfl (.tmp 16) (.tmp 19) rfl w.heap.size _ l' rfl ?c1 (wr.heap.size+1) _ _ _ [UInt8.ofNat q] rfl ?c2 ?c3 ?c4 ?_);case c1=>exact aK.alloc HO.o _
   case c2=>exact bU.new wr _ _ [UInt8.ofNat q] (by simp;omega) 1 rfl (by unfold maxLen;omega)
   case c3=>first|omega|(simp;omega)
   case c4=>first|omega|(simp;omega)
   intro v2 w2 ho2 hg2 hv2;have HR:=qS (MZ w (aJ n) (.returned v2) w2) (⟨v2,rfl,by rw[HN.o];exact ho2,Below.grown (HB.o.alloc HB.o.size _) hg2 (by simp;omega) (fun k' hk'=>aK.lt HO.o k' hk')⟩);clear ho2 hg2 hv2;go_wp2;go_ret;exact HR.o
  ·have t1:(127:Int)<q:=by omega
   have HN:=qS ((l'++[UInt8.ofNat (q%128+128)])++aJ (q/128)=aJ n) (by rw[←HL.o,ma hlo];simp);obtain⟨r,d,hr,hd,hr8,hdq⟩: ∃r d:Nat,r=q%128∧d=q/128∧r<128∧d<q:=⟨_,_,rfl,rfl,by omega,by omega⟩;rw[←hr,←hd,show UInt8.ofNat (r+128)=UInt8.ofNat r+128 by simp]at HN;obtain⟨e1,e2,e3,e4,e5⟩:(q:Int).tmod 128=(r:Int)∧(q:Int).tdiv 128=(d:Int)∧IntKind.i64.wrap (d:Int)=(d:Int)∧IntKind.i64.wrap ((r:Int)+128)=(r:Int)+128∧IntKind.u8.wrap ((r:Int)+128)=(r:Int)+128:=⟨by rw[hr];exact(Int.ofNat_tmod q 128).symm,by rw[hd];exact(Int.ofNat_tdiv q 128).symm,IntWalk.i64_in _ (by omega),IntWalk.i64_in _ (by omega),by simp[IntKind.wrap,IntKind.bits,IntKind.signed];omega⟩;clear hr hd hlo;go_wp2_with(at_builtin;refine aG rfl (.tmp 7) (.tmp 12) rfl w.heap.size _ l' rfl ?c1 (wr.heap.size+1) _ _ _ [UInt8.ofNat (r+128)] rfl ?c2 ?c3 ?c4 ?_);case c1=>exact aK.alloc HO.o _
   case c2=>have:=bU.new wr #[.int .u8 ((r:Int)+128)] 5 [UInt8.ofNat (r+128)] (by simp;omega) 1 rfl (by unfold maxLen;omega);exact this
   case c3=>first|omega|(simp;omega)
   case c4=>first|omega|(simp;omega)
   intro v2 w2 ho2 hg2 hv2;have HB2:=qS (RowKit.Below w.heap.size w w2) (Below.grown (HB.o.alloc HB.o.size _) hg2 (by simp;omega) (fun k' hk'=>aK.lt HO.o k' hk'));have dW:=qH ho2;clear ho2 hg2 hv2;go_wp2;go_roundw;case rel=>exact⟨d,_,rfl,by omega,HN.o,dW.o,HB2.o⟩
   case measure=>simp[intOf];omega
theorem mQ(w:World)(s:List UInt8)(hs:s.length≤4096):Calls Tryz.prog 216 #[.string ⟨s.toArray⟩] w (MZ w (aR s)):=by
 go_enter Tryz.func216,Tryz.ntmps216;have ho:aK (w.alloc (.cells #[.int .u8 (IntKind.u8.wrap (s.length:Int))] 5)) w.heap.size (.slice (some ⟨w.heap.size,0,none⟩) 1 1) [UInt8.ofNat s.length]:=by refine⟨rfl,.inr ⟨w.heap.size,1,#[.int .u8 (IntKind.u8.wrap (s.length:Int))],rfl,Nat.le_refl _,heap_alloc_new w _,Nat.le_refl _,by unfold maxLen;omega,rfl,?_⟩⟩;simp[uD,IntKind.wrap,IntKind.bits,IntKind.signed]
 obtain⟨v6,w6,hr6,ho6,hg6,hv6⟩:=CX _ w.heap.size _ [UInt8.ofNat s.length] s ho (by simp) (by simp) (by simp;omega) 32;have TA:=qH hr6;have Dx:=qS (MZ w (aR s) (.returned v6) w6) (⟨v6,rfl,ho6,Below.grown ((Below.refl _ _).alloc (Nat.le_refl _) _) hg6 (by simp) (fun k' hk'=>Nat.le_of_eq (Option.some.inj hk'))⟩);clear hr6 ho6 hg6 hv6 ho;have e1:IntKind.u8.wrap (s.length:Int)=((s.length%256:Nat):Int):=by simp[IntKind.wrap,IntKind.bits,IntKind.signed]
 rw[e1]at TA;go_wp2_with(at_builtin;refine Lib.wpList_append_run _ rfl (.tmp 6) (.tmp 7) _ _ rfl _ _ rfl rfl _ _ TA.o ?_);go_wp2;go_ret;exact Dx.o
end Go.Proofs.YtbejfgmdkmddnaaGreatDoor
