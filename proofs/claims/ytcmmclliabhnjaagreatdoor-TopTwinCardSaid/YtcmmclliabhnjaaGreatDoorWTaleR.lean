/-
  Chapter 37: what holds of a tale in memory between its steps.
-/
import Derived.Test.YtcmmclliabhnjaaGreatDoorWMapL
import Derived.Test.YtcmmclliabhnjaaGreatDoorWSets
import Derived.Deep.DeepCutAuto
import Derived.Test.YtcmmclliabhnjaaGreatDoorWTaleRow
import Derived.Test.YtcmmclliabhnjaaGreatDoorWShelf
import Derived.Test.YtcmmclliabhnjaaGreatDoorWTwCc
import Derived.StillTailTactics
set_option maxRecDepth 100000
set_option maxHeartbeats 16000000
namespace Go.Proofs.YtcmmclliabhnjaaGreatDoor
open Go.RowKit Go.Maps Go.Sort
def setV(x0 x1 x2 x3 x4 x5 ev sd:Int):Value:=.agg #[.int .i64 x0,.int .i64 x1,.int .i64 x2,.int .i64 x3,.int .i64 x4,.int .i64 x5,.int .i64 100,.int .i64 100,.int .i64 100,.int .i64 100,.int .i64 100,.int .i64 100,.int .i64 4,.int .i64 2,.int .i64 3,.int .i64 1073741824,.int .i64 0,.int .i64 5,.int .i64 ev,.string ⟨#[115,116,111,99,107,62,48]⟩,.string ⟨#[111,119,110]⟩,.int .u64 sd]
def SetPost(w:World)(e:Ending)(w':World):Prop:= ∃x0 x1 x2 x3 x4 x5 ev sd,e=.returned (setV x0 x1 x2 x3 x4 x5 ev sd)∧Below w.heap.size w w'
def wtV(i k:Nat):Value:=.int .i64 (if i<k then 100 else 0)
def setRow(k:Nat)(x0 x1 x2 x3 x4 x5 ev sd:Int):Array Value:= #[.int .i64 x0,.int .i64 x1,.int .i64 x2,.int .i64 x3,.int .i64 x4,.int .i64 x5,wtV 0 k,wtV 1 k,wtV 2 k,wtV 3 k,wtV 4 k,wtV 5 k,.int .i64 4,.int .i64 2,.int .i64 3,.int .i64 1073741824,.int .i64 0,.int .i64 5,.int .i64 ev,.string ⟨#[115,116,111,99,107,62,48]⟩,.string ⟨#[111,119,110]⟩,.int .u64 sd]
abbrev zeroSet:Array Value:= #[.int .i64 0,.int .i64 0,.int .i64 0,.int .i64 0,.int .i64 0,.int .i64 0,.int .i64 0,.int .i64 0,.int .i64 0,.int .i64 0,.int .i64 0,.int .i64 0,.int .i64 0,.int .i64 0,.int .i64 0,.int .i64 0,.int .i64 0,.int .i64 0,.int .i64 0,.string ⟨#[]⟩,.string ⟨#[]⟩,.int .u64 0]
theorem setRow_set(k:Nat)(hk:k<6)(x0 x1 x2 x3 x4 x5 ev sd:Int):(setRow k x0 x1 x2 x3 x4 x5 ev sd).setIfInBounds (6+k) (.int .i64 100)=setRow (k+1) x0 x1 x2 x3 x4 x5 ev sd:=by
 have hkk:k=0∨k=1∨k=2∨k=3∨k=4∨k=5:=by omega
 rcases hkk with rfl|rfl|rfl|rfl|rfl|rfl<;>simp[setRow,wtV]
theorem setRow_some(k:Nat)(hk:k<6)(x0 x1 x2 x3 x4 x5 ev sd:Int):((setRow k x0 x1 x2 x3 x4 x5 ev sd)[6+k]?).isSome=true:=by
 have hkk:k=0∨k=1∨k=2∨k=3∨k=4∨k=5:=by omega
 rcases hkk with rfl|rfl|rfl|rfl|rfl|rfl<;>simp[setRow]
def SetRel(w:World)(b br:Nat)(x0 x1 x2 x3 x4 x5 ev sd:Int)(i:Value)(wr:World):Prop:= ∃k:Nat,i=.int .i64 k∧k≤6∧wr.heap[b]?=some (.cells (setRow k x0 x1 x2 x3 x4 x5 ev sd) 32)∧wr.heap[br]?=some (.cells zeroSet 32)∧Below w.heap.size w wr
theorem set_info:(Tryz.prog.info? 32).map (fun i=>(i.zero,i.size))=some (some (.agg zeroSet),22):=by kernel_rfl
theorem zero_set(w:World):(zeroValue 32).run Tryz.prog w=.ok (.agg zeroSet) w:=(zero_of_info set_info).1 w
theorem settings_any(w:World)(y0 y1 y2 y3 y4 y5 y6 y7:Nat)(h0:y0≤255)(h1:y1≤255)(h2:y2≤255)(h3:y3≤255)(h4:y4≤255)(h5:y5≤255)(h6:y6≤255)(h7:y7≤255):Calls Tryz.prog 94 #[.agg #[.int .i64 y0,.int .i64 y1,.int .i64 y2,.int .i64 y3,.int .i64 y4,.int .i64 y5,.int .i64 y6,.int .i64 y7]] w (SetPost w):=by
 go_enter Tryz.func94,Tryz.ntmps94;go_upto_region 1 with fail;generalize hw2:(World.alloc (World.alloc w _) _)=w2;have hb2:Below w.heap.size w w2:=by rw[←hw2];exact((Below.refl _ _).alloc (Nat.le_refl _) _).alloc (by simp) _
 have hs2:w2.heap.size=w.heap.size+2:=by rw[←hw2];simp
 have hk:w2.heap[w.heap.size]?=some (.cells #[.int .i64 y0,.int .i64 y1,.int .i64 y2,.int .i64 y3,.int .i64 y4,.int .i64 y5,.int .i64 y6,.int .i64 y7] 155):=by rw[←hw2];exact(heap_alloc_old _ _ (by simp)).trans (heap_alloc_new w _)
 have key: ∀o,w2.cell? ⟨w.heap.size,o,none⟩=_:=fun o=>cell_of_row _ w.heap.size o _ _ (0,0) hk;have g0:=(key 0).trans rfl;have g1:=(key 1).trans rfl;have g2:=(key 2).trans rfl;have g3:=(key 3).trans rfl;have g4:=(key 4).trans rfl;have g5:=(key 5).trans rfl;have g6:=(key 6).trans rfl;have g7:=(key 7).trans rfl;have HB2:=qH hb2;have hr2:w2.heap[w.heap.size+1]?=some (.cells zeroSet 32):=by rw[←hw2];have h:=heap_alloc_new (w.alloc (.cells #[.int .i64 y0,.int .i64 y1,.int .i64 y2,.int .i64 y3,.int .i64 y4,.int .i64 y5,.int .i64 y6,.int .i64 y7] 155)) (.cells zeroSet 32);rw[show(w.alloc (.cells #[.int .i64 y0,.int .i64 y1,.int .i64 y2,.int .i64 y3,.int .i64 y4,.int .i64 y5,.int .i64 y6,.int .i64 y7] 155)).heap.size=w.heap.size+1 by simp]at h;exact h
 clear hk key hw2 hb2;go_upto_region 3 with(first|(refine wpList_built rfl 32 _ rfl (setRow 0 (1+10*(y0:Int)) (1+(y1:Int)%20) (1+(y2:Int)%50) (wrap64 ((1+(y1:Int)%20)*(1+(y3:Int)%4))) ((y4:Int)%3) ((y5:Int)%3) ((y6:Int)%4) (y7:Int)) (by kernel_rfl) ?_)|(refine wpList_fresh rfl rfl 32 rfl _ _ rfl zeroSet zero_set (setRow 0 (1+10*(y0:Int)) (1+(y1:Int)%20) (1+(y2:Int)%50) (wrap64 ((1+(y1:Int)%20)*(1+(y3:Int)%4))) ((y4:Int)%3) ((y5:Int)%3) ((y6:Int)%4) (y7:Int)) rfl rfl (by kernel_rfl) rfl (by simp[setRow,wtV,Value.oneCell']) ?_));generalize wrap64 ((1+(y1:Int)%20)*(1+(y3:Int)%4))=x3;generalize 1+10*(y0:Int)=x0;generalize 1+(y1:Int)%20=x1;generalize 1+(y2:Int)%50=x2;generalize(y4:Int)%3=x4;generalize(y5:Int)%3=x5;generalize(y6:Int)%4=x6;generalize(y7:Int)=x7;have HST:=qH (show SetRel w (w.heap.size+2) (w.heap.size+1) x0 x1 x2 x3 x4 x5 x6 x7 (.int .i64 ((0:Nat):Int)) (w2.alloc (.cells (setRow 0 x0 x1 x2 x3 x4 x5 x6 x7) 32))from⟨0,rfl,by omega,by rw[←hs2];exact heap_alloc_new w2 _,(heap_alloc_old w2 _ (by omega)).trans hr2,HB2.out.alloc HB2.out.size _⟩);clear h0 h1 h2 h3 h4 h5 h6 h7 hr2 g0 g1 g2 g3 g4 g5 g6 g7;go_wp2;go_loopw[40](fun i wr=>SetRel w (w.heap.size+2) (w.heap.size+1) x0 x1 x2 x3 x4 x5 x6 x7 i wr)(fun i _=>6-(intOf i).toNat);case atStart=>exact HST.out
 case round=>
  obtain⟨k,rfl,hk,hblk,hres,hbel⟩:=hrel;have HBL:=qH hbel;have hsz:=hbel.size;have hbl:=heap_lt hblk;have frz:=fun o=>frozen_of_row wr (w.heap.size+2) o _ _ hblk;have key: ∀o,wr.cell? ⟨w.heap.size+2,o,none⟩=_:=fun o=>cell_of_row _ (w.heap.size+2) o _ _ (0,0) hblk;by_cases hk6:k<6
  ·have HRL:=qH (show∀wx:World,wx=wr.setCell ⟨w.heap.size+2,6+k,none⟩ (.int .i64 100)→SetRel w (w.heap.size+2) (w.heap.size+1) x0 x1 x2 x3 x4 x5 x6 x7 (.int .i64 ((k:Int)+1)) wx from fun wx e=>by
    subst e;refine⟨k+1,rfl,hk6,?_,?_,?_⟩;·rw[heap_set_row hblk,setRow_set k hk6]
    ·exact(Below.heap_setCell wr _ _ (w.heap.size+1) (by simp)).trans hres
    ·exact HBL.out.setCell (p:=⟨w.heap.size+2,6+k,none⟩) (by simp) _);obtain⟨u,hu⟩: ∃u,wr.cell? ⟨w.heap.size+2,6+k,none⟩=some u:=by refine Option.isSome_iff_exists.1 ?_;rw[key];exact setRow_some k hk6 ..
   have hf:=frz (6+k);have t1:(k:Int)<6:=by omega
   clear key frz hblk hres hbel;go_wp2;go_roundw;case rel=>exact HRL.out _ rfl
   case measure=>simp[intOf];omega
  ·obtain rfl:k=6:=by omega
   obtain⟨c6,hc6⟩: ∃c6,c6=setRow 6 x0 x1 x2 x3 x4 x5 x6 x7:=⟨_,rfl⟩;have hsz6:c6.size=22:=by rw[hc6];rfl
   have hon6:c6.all (·.oneCell')=true:=by rw[hc6];simp[setRow,wtV,Value.oneCell']
   rw[←hc6]at hblk;have HE:=qH (show(.agg c6:Value)=setV x0 x1 x2 x3 x4 x5 x6 x7 from by rw[hc6];rfl);have hinf:(Tryz.prog.info? 32).map (·.size)=some c6.size:=by rw[hsz6];exact(zero_of_info set_info).2
   have hlt:=heap_lt hres;clear key frz hc6 hbel;go_wp2_with(first|(refine wpList_loaded rfl 32 _ rfl (w.heap.size+2) rfl c6 _ Tryz.underlying32 rfl hinf hblk ?_)|(refine wpList_stored rfl 32 _ _ rfl (w.heap.size+1) rfl c6 zeroSet rfl hres hinf (by rw[hsz6];rfl) hon6 ?_));have hrow:(wr.setRow (w.heap.size+1) c6).heap[w.heap.size+1]?=some (.cells c6 32):=setRow_heap wr (w.heap.size+1) zeroSet c6 _ (0,0) hres;have hld:=run_loadVar_row (P:=Tryz.prog) (wr.setRow (w.heap.size+1) c6) (w.heap.size+1) 32 32 c6 (0,0) _ hrow Tryz.underlying32 rfl hinf;have hb9:Below w.heap.size w (wr.setRow (w.heap.size+1) c6):=by have h1:=HBL.out;refine⟨h1.os,h1.tape,h1.output,by rw[show(wr.setRow (w.heap.size+1) c6).heap.size=wr.heap.size from by simp[World.setRow]];exact h1.size,fun b hb=>?_⟩;rw[←h1.block b hb];simp only[World.setRow];rw[Array.getElem?_modify,if_neg (by omega)]
   exact bodyPost_ret (v:=.agg c6) (by simp[results,Tryz.results94,Act.put,asAddr,hld]) rfl ⟨x0,x1,x2,x3,x4,x5,x6,x7,by rw[HE.out],hb9⟩
theorem dig_small: ∀k:Nat,k<10→Lib.decDigits k=[UInt8.ofNat (48+k)]:=by
 intro k hk;have key: ∀k:Fin 10,Lib.decDigits k.val=[UInt8.ofNat (48+k.val)]:=by decide+kernel
 exact key ⟨k,hk⟩
theorem numbered_any(w:World)(c:UInt8)(k:Nat)(hk:k<10):Calls Tryz.prog 95 #[.string ⟨#[c]⟩,.int .i64 k] w fun e w'=>e=.returned (.string ⟨(nmT c k).toArray⟩)∧w'=w:=by
 have HS:=qH (show(⟨#[c]⟩:ByteArray)++⟨(Lib.decDigits k).toArray⟩=⟨(nmT c k).toArray⟩from by have e:(⟨#[c]⟩:ByteArray)=⟨[c].toArray⟩:=rfl;rw[e,str_app,dig_small k hk];rfl);have hd:(Lib.decDigits k).length=1:=by rw[dig_small k hk];rfl
 have t1: ¬9223372036854775807<1+(Lib.decDigits k).length:=by omega
 go_enter Tryz.func95,Tryz.ntmps95;go_wp2_with fail;refine(Tryz.strconv_Itoa_small k (by omega) w).mono ?_;rintro r w1⟨rfl,rfl⟩;go_wp2;go_ret;exact⟨congrArg (fun b=>Ending.returned (.string b)) HS.out,rfl⟩
theorem tlat_any(w:World)(bx:Nat)(A:Option Addr)(n c:Nat)(l:List UInt8)(hb:w.cell? ⟨bx,0,none⟩=some (.slice A n c))(h:Byt w w.heap.size A n c l)(i:Nat):Calls Tryz.prog 93 #[.int .i64 i,.pointer (some ⟨bx,0,none⟩)] w fun e w'=>e=.returned (.int .i64 ((l.getD i 0).toNat:Nat))∧w'=w:=by
 by_cases hi:i<n
 ·have hl:l.length=n:=h.len;obtain⟨b,off,hA,hlt,hc⟩:=h.cell (by omega);subst hA;have hc0:=hc i (by omega);have HV:=qH (show(l.getD i 0)=l[i]'(by omega)from by rw[List.getD_eq_getElem?_getD,List.getElem?_eq_getElem (by omega)];rfl);have hc1:w.cell? ⟨b,off+i,none⟩=some (.int .u8 ((l.getD i 0).toNat:Nat)):=by rw[HV.out];exact hc0
  have t1:(i:Int)<n:=by omega
  have hb8:=(l.getD i 0).toNat_lt;generalize(l.getD i 0).toNat=v at*;clear hc hc0 HV h;go_enter Tryz.func93,Tryz.ntmps93;go_wp2;go_ret;exact⟨by first|rfl|(apply ret_int;omega),rfl⟩
 ·have hl:l.length=n:=h.len;have t1: ¬(i:Int)<n:=by omega
  have HV:=qH (show(l.getD i 0)=0 from by rw[List.getD_eq_getElem?_getD,List.getElem?_eq_none (by omega)];rfl);clear h;go_enter Tryz.func93,Tryz.ntmps93;go_wp2;go_ret;exact⟨by first|rfl|(rw[HV.out];rfl),rfl⟩
def eightV(l:List UInt8)(k i:Nat):Value:=.int .i64 (if i<k then((l.getD i 0).toNat:Int)else 0)
def eightRow(l:List UInt8)(k:Nat):Array Value:= #[eightV l k 0,eightV l k 1,eightV l k 2,eightV l k 3,eightV l k 4,eightV l k 5,eightV l k 6,eightV l k 7]
theorem eightRow_set(l:List UInt8)(k:Nat)(hk:k<8):(eightRow l k).setIfInBounds k (.int .i64 ((l.getD k 0).toNat:Nat))=eightRow l (k+1):=by
 have hkk:k=0∨k=1∨k=2∨k=3∨k=4∨k=5∨k=6∨k=7:=by omega
 rcases hkk with rfl|rfl|rfl|rfl|rfl|rfl|rfl|rfl<;>simp[eightRow,eightV]
theorem eightRow_some(l:List UInt8)(k:Nat)(hk:k<8):((eightRow l k)[k]?).isSome=true:=by
 have hkk:k=0∨k=1∨k=2∨k=3∨k=4∨k=5∨k=6∨k=7:=by omega
 rcases hkk with rfl|rfl|rfl|rfl|rfl|rfl|rfl|rfl<;>simp[eightRow]
def fiveV(l:List UInt8)(s k i:Nat):Value:=.int .i64 (if i<k then((l.getD (s+i) 0).toNat:Int)else 0)
def fiveRow(l:List UInt8)(s k:Nat):Array Value:= #[fiveV l s k 0,fiveV l s k 1,fiveV l s k 2,fiveV l s k 3,fiveV l s k 4]
theorem fiveRow_set(l:List UInt8)(s k:Nat)(hk:k<5):(fiveRow l s k).setIfInBounds k (.int .i64 ((l.getD (s+k) 0).toNat:Nat))=fiveRow l s (k+1):=by
 have hkk:k=0∨k=1∨k=2∨k=3∨k=4:=by omega
 rcases hkk with rfl|rfl|rfl|rfl|rfl<;>simp[fiveRow,fiveV]
theorem fiveRow_some(l:List UInt8)(s k:Nat)(hk:k<5):((fiveRow l s k)[k]?).isSome=true:=by
 have hkk:k=0∨k=1∨k=2∨k=3∨k=4:=by omega
 rcases hkk with rfl|rfl|rfl|rfl|rfl<;>simp[fiveRow]
theorem five_eq(l:List UInt8)(s:Nat):fiveRow l s 5= #[.int .i64 ((l.getD (s+0) 0).toNat:Nat),.int .i64 ((l.getD (s+1) 0).toNat:Nat),.int .i64 ((l.getD (s+2) 0).toNat:Nat),.int .i64 ((l.getD (s+3) 0).toNat:Nat),.int .i64 ((l.getD (s+4) 0).toNat:Nat)]:=by simp[fiveRow,fiveV]
abbrev zeroTale:Array Value:= #[.int .i64 0,.int .i64 0,.int .i64 0,.int .i64 0,.int .i64 0,.int .i64 0,.int .i64 0,.int .i64 0,.int .i64 0,.int .i64 0,.int .i64 0,.int .i64 0,.int .i64 0,.int .i64 0,.int .i64 0,.int .i64 0,.int .i64 0,.int .i64 0,.int .i64 0,.string ⟨#[]⟩,.string ⟨#[]⟩,.int .u64 0,.slice none 0 0,.int .i64 0]
theorem heap_new_at(w:World)(o:Obj)(k:Nat)(h:k=w.heap.size):(w.alloc o).heap[k]?=some o:=h▸heap_alloc_new w o
theorem tale_info:(Tryz.prog.info? 88).map (fun i=>(i.zero,i.size))=some (some (.agg zeroTale),24):=by kernel_rfl
theorem zero_tale(w:World):(zeroValue 88).run Tryz.prog w=.ok (.agg zeroTale) w:=(zero_of_info tale_info).1 w
def taleRow(x0 x1 x2 x3 x4 x5 ev sd:Int)(v:Value)(t:Int):Array Value:= #[.int .i64 x0,.int .i64 x1,.int .i64 x2,.int .i64 x3,.int .i64 x4,.int .i64 x5,.int .i64 100,.int .i64 100,.int .i64 100,.int .i64 100,.int .i64 100,.int .i64 100,.int .i64 4,.int .i64 2,.int .i64 3,.int .i64 1073741824,.int .i64 0,.int .i64 5,.int .i64 ev,.string ⟨#[115,116,111,99,107,62,48]⟩,.string ⟨#[111,119,110]⟩,.int .u64 sd,v,.int .i64 t]
theorem taleRow_set(x0 x1 x2 x3 x4 x5 ev sd:Int)(v v':Value)(t t':Int):(taleRow x0 x1 x2 x3 x4 x5 ev sd v t).setIfInBounds 22 v'=taleRow x0 x1 x2 x3 x4 x5 ev sd v' t∧(taleRow x0 x1 x2 x3 x4 x5 ev sd v t).setIfInBounds 23 (.int .i64 t')=taleRow x0 x1 x2 x3 x4 x5 ev sd v t':=⟨rfl,rfl⟩
theorem eight_eq(l:List UInt8):eightRow l 8= #[.int .i64 ((l.getD 0 0).toNat:Nat),.int .i64 ((l.getD 1 0).toNat:Nat),.int .i64 ((l.getD 2 0).toNat:Nat),.int .i64 ((l.getD 3 0).toNat:Nat),.int .i64 ((l.getD 4 0).toNat:Nat),.int .i64 ((l.getD 5 0).toNat:Nat),.int .i64 ((l.getD 6 0).toNat:Nat),.int .i64 ((l.getD 7 0).toNat:Nat)]:=by simp[eightRow,eightV]
def EightRel(w:World)(A:Option Addr)(n c:Nat)(l:List UInt8)(i:Value)(wr:World):Prop:= ∃k:Nat,i=.int .i64 k∧k≤8∧wr.heap[w.heap.size+2]?=some (.cells (eightRow l k) 155)∧wr.heap[w.heap.size+1]?=some (.cells zeroTale 88)∧wr.cell? ⟨w.heap.size,0,none⟩=some (.slice A n c)∧Below w.heap.size w wr
def ParsePost(w:World)(n:Nat)(r:Ending)(w':World):Prop:= ∃(x0 x1 x2 x3 x4 x5 ev sd:Int)(v:Value)(l:List Stp)(t:Int)(c:Nat→Nat),r=.returned (.agg (taleRow x0 x1 x2 x3 x4 x5 ev sd v t))∧OwnP w' w.heap.size v l∧TlInv (tellsL l) c∧5*l.length≤n∧1000≤t∧t≤1000+15*(n:Int)∧Below w.heap.size w w'
theorem TlInv.up{l:List Ev}{c c':Nat→Nat}(h:TlInv l c)(hc: ∀d,c d≤c' d):TlInv l c':=⟨h.may,fun e he=>by obtain⟨d,h1,h2,h3,h4⟩:=h.num e he;exact⟨d,h1,h2,h3,by have:=hc d;omega⟩,h.ids,h.low⟩
def stpRow(s:Stp):Array Value:= #[.int .i64 s.what,.string ⟨s.e.src.toArray⟩,.int .i64 s.e.num,.int .i64 s.e.at_,.int .i64 s.e.kind,.string ⟨s.e.per.toArray⟩,.string ⟨s.e.item.toArray⟩,.int .i64 s.e.val,.string ⟨s.e.text.toArray⟩,.string ⟨s.per.toArray⟩,.int .i64 s.now,.int .i64 s.keep,.int .i64 s.of_]
abbrev stp0(t:Int):Stp:=⟨0,⟨[],0,0,0,[],[],0,[]⟩,[],t,0,0⟩
theorem stp_info:(Tryz.prog.info? 92).map (fun i=>(i.zero,i.size))=some (some (.agg (stpRow (stp0 0))),13):=by kernel_rfl
theorem stp_info3:(Tryz.prog.info? 92).map (fun i=>(i.zero,i.size,i.bytes))=some (some (.agg (stpRow (stp0 0))),13,144):=by kernel_rfl
theorem zero_stp(w:World):(zeroValue 92).run Tryz.prog w=.ok (.agg (stpRow (stp0 0))) w:=(zero_of_info stp_info).1 w
theorem stp_sliced(w:World)(s:Stp):(Instr.buildSlice 86 1 #[(0,.agg (stpRow s))]).run Tryz.prog w=.ok (.slice (some ⟨w.heap.size,0,none⟩) 1 1) (w.alloc (.cells (stpRow s) 92)):=by kernel_rfl
theorem wpList_stp{ops:Array Oper}{rest:List Oper}{o:Oper}{a:Act}{Q:Exit→Act→World→Prop}{w:World}(hg:o.guard=none)(x:Operand)(hop:o.op=Op.buildSlice 86 1 #[(0,x)])(s:Stp)(hx:a.eval x=.agg (stpRow s))(h:wpList Tryz.prog ops Q rest (a.put o.dst (.slice (some ⟨w.heap.size,0,none⟩) 1 1)) (w.alloc (.cells (stpRow s) 92))):wpList Tryz.prog ops Q (o::rest) a w:=by refine wpList_plain hg fun K hK=>?_;have hr:=stp_sliced w s;unfold Oper.wp;simp[execOp,hop,hx,hr,Result.andThen];exact hK _ _ h
theorem stp_stored(t:Int)(e:Ev):((((((((((stpRow (stp0 t)).setIfInBounds 0 (.int .i64 0)).setIfInBounds 1 (.string ⟨e.src.toArray⟩)).setIfInBounds 2 (.int .i64 e.num)).setIfInBounds 3 (.int .i64 e.at_)).setIfInBounds 4 (.int .i64 e.kind)).setIfInBounds 5 (.string ⟨e.per.toArray⟩)).setIfInBounds 6 (.string ⟨e.item.toArray⟩)).setIfInBounds 7 (.int .i64 e.val)).setIfInBounds 8 (.string ⟨e.text.toArray⟩))=stpRow ⟨0,e,[],t,0,0⟩:=by simp[stpRow]
theorem told_stored{w6:World}{b:Nat}{t:Int}(e:Ev)(h:w6.heap[b]?=some (.cells (stpRow (stp0 t)) 92)):Keep (fun q=>q=b) w6 (World.setCell (World.setCell (World.setCell (World.setCell (World.setCell (World.setCell (World.setCell (World.setCell (World.setCell w6 ⟨b,0,none⟩ (.int .i64 0)) ⟨b,1,none⟩ (.string ⟨e.src.toArray⟩)) ⟨b,2,none⟩ (.int .i64 e.num)) ⟨b,3,none⟩ (.int .i64 e.at_)) ⟨b,4,none⟩ (.int .i64 e.kind)) ⟨b,5,none⟩ (.string ⟨e.per.toArray⟩)) ⟨b,6,none⟩ (.string ⟨e.item.toArray⟩)) ⟨b,7,none⟩ (.int .i64 e.val)) ⟨b,8,none⟩ (.string ⟨e.text.toArray⟩))∧(World.setCell (World.setCell (World.setCell (World.setCell (World.setCell (World.setCell (World.setCell (World.setCell (World.setCell w6 ⟨b,0,none⟩ (.int .i64 0)) ⟨b,1,none⟩ (.string ⟨e.src.toArray⟩)) ⟨b,2,none⟩ (.int .i64 e.num)) ⟨b,3,none⟩ (.int .i64 e.at_)) ⟨b,4,none⟩ (.int .i64 e.kind)) ⟨b,5,none⟩ (.string ⟨e.per.toArray⟩)) ⟨b,6,none⟩ (.string ⟨e.item.toArray⟩)) ⟨b,7,none⟩ (.int .i64 e.val)) ⟨b,8,none⟩ (.string ⟨e.text.toArray⟩)).heap[b]?=some (.cells (stpRow ⟨0,e,[],t,0,0⟩) 92):=⟨((((((((((Keep.refl (fun q=>q=b) w6).setCell (p:=⟨b,0,none⟩) (fun _=>rfl) (.int .i64 0)).setCell (p:=⟨b,1,none⟩) (fun _=>rfl) (.string ⟨e.src.toArray⟩)).setCell (p:=⟨b,2,none⟩) (fun _=>rfl) (.int .i64 e.num)).setCell (p:=⟨b,3,none⟩) (fun _=>rfl) (.int .i64 e.at_)).setCell (p:=⟨b,4,none⟩) (fun _=>rfl) (.int .i64 e.kind)).setCell (p:=⟨b,5,none⟩) (fun _=>rfl) (.string ⟨e.per.toArray⟩)).setCell (p:=⟨b,6,none⟩) (fun _=>rfl) (.string ⟨e.item.toArray⟩)).setCell (p:=⟨b,7,none⟩) (fun _=>rfl) (.int .i64 e.val)).setCell (p:=⟨b,8,none⟩) (fun _=>rfl) (.string ⟨e.text.toArray⟩)),((heap_set_row (heap_set_row (heap_set_row (heap_set_row (heap_set_row (heap_set_row (heap_set_row (heap_set_row (heap_set_row h)))))))))).trans (by rw[stp_stored])⟩
theorem OwnP.down{w:World}{base base':Nat}{v:Value}{l:List Stp}(h:OwnP w base v l)(hb:base'≤base):OwnP w base' v l:=by
 refine⟨h.1,?_⟩;rcases h.2 with h'|⟨g,cap,cur,e,hg,r⟩;·exact .inl h'
 ·exact .inr ⟨g,cap,cur,e,Nat.le_trans hb hg,r⟩
theorem OwnP.keepB{w w':World}{base:Nat}{v:Value}{l:List Stp}(h:OwnP w base v l)(hb: ∀b,v.ownBlock=some b→w'.heap[b]?=w.heap[b]?):OwnP w' base v l:=by
 refine⟨h.1,?_⟩;rcases h.2 with hn|⟨g,cap,cur,rfl,hbg,hgg,rest⟩;·exact .inl hn
 ·exact .inr ⟨g,cap,cur,rfl,hbg,(hb g rfl).trans hgg,rest⟩
structure TaleIn(w wr:World)(b5:Nat)(A:Option Addr)(n c:Nat)(x0 x1 x2 x3 x4 x5 ev sd:Int)(K:Nat)(v:Value)(l:List Stp)(t:Int)(cc:Nat→Nat)(M:Row Value):Prop where
 row:wr.heap[b5]?=some (.cells (taleRow x0 x1 x2 x3 x4 x5 ev sd v t) 88)
 own:OwnP wr (b5+2) v l
 inv:TlInv (tellsL l) cc
 map:MapS wr (b5+1) M
 cnt: ∀d,d<2→(getB M (nmT 115 d)).getD (.int .i64 0)=.int .i64 (cc d)∧cc d≤K
 siz:M.length≤K
 bel:Below w.heap.size w wr
 box:wr.cell? ⟨w.heap.size,0,none⟩=some (.slice A n c)
 zer:wr.heap[w.heap.size+1]?=some (.cells zeroTale 88)
 apt:w.heap.size+2<b5
def TaleRel(w:World)(b5:Nat)(A:Option Addr)(n c:Nat)(x0 x1 x2 x3 x4 x5 ev sd:Int)(i:Value)(wr:World):Prop:= ∃(k:Nat)(v:Value)(l:List Stp)(t:Int)(cc:Nat→Nat)(M:Row Value),i=.int .i64 (8+5*(k:Int))∧(k=0∨5*k+3<n)∧l.length=k∧1000≤t∧t≤1000+15*(k:Int)∧TaleIn w wr b5 A n c x0 x1 x2 x3 x4 x5 ev sd k v l t cc M
def FiveRel(w1:World)(s:Nat)(l:List UInt8)(i:Value)(wr:World):Prop:= ∃j:Nat,i=.int .i64 j∧j≤5∧wr.heap[w1.heap.size]?=some (.cells (fiveRow l s j) 158)∧Below w1.heap.size w1 wr
def MadeR(w w2:World)(b5 b9 b11:Nat)(f:Array Value)(A:Option Addr)(n c:Nat)(x0 x1 x2 x3 x4 x5 ev sd:Int)(K:Nat)(v:Value)(l:List Stp)(t:Int)(wr:World):Prop:= ∃(s:Stp)(cc:Nat→Nat)(M:Row Value),wr.heap[b11]?=some (.cells (stpRow s) 92)∧wr.heap[b9]?=some (.cells f 158)∧TaleIn w wr b5 A n c x0 x1 x2 x3 x4 x5 ev sd K v l t cc M∧TlInv (tellsL (l++[s])) cc∧w2.heap.size≤wr.heap.size
section
variable{w wr w':World}{b5:Nat}{A:Option Addr}{n c:Nat}{x0 x1 x2 x3 x4 x5 ev sd:Int}{K:Nat}{v:Value}{l:List Stp}{t:Int}{cc:Nat→Nat}{M:Row Value}
theorem TaleIn.lt(h:TaleIn w wr b5 A n c x0 x1 x2 x3 x4 x5 ev sd K v l t cc M):b5+1<wr.heap.size:=h.map.lt
theorem TaleIn.up(h:TaleIn w wr b5 A n c x0 x1 x2 x3 x4 x5 ev sd K v l t cc M)(hb:Below wr.heap.size wr w'):TaleIn w w' b5 A n c x0 x1 x2 x3 x4 x5 ev sd K v l t cc M:=by have hl:=h.lt;have ha:=h.apt;exact⟨(hb.block b5 (by omega)).trans h.row,h.own.keepB (fun b e=>hb.block b (World.ownsRow.lt h.own b e).2),h.inv,h.map.block (hb.block _ h.map.lt),h.cnt,h.siz,h.bel.trans (hb.mono h.bel.size),(hb.cell (p:=⟨w.heap.size,0,none⟩) (by show w.heap.size<_;omega)).trans h.box,(hb.block _ (by omega)).trans h.zer,h.apt⟩
theorem TaleIn.more{K':Nat}(h:TaleIn w wr b5 A n c x0 x1 x2 x3 x4 x5 ev sd K v l t cc M)(hk:K≤K'):TaleIn w wr b5 A n c x0 x1 x2 x3 x4 x5 ev sd K' v l t cc M:=⟨h.row,h.own,h.inv,h.map,fun d hd=>⟨(h.cnt d hd).1,by have:=(h.cnt d hd).2;omega⟩,by have:=h.siz;omega,h.bel,h.box,h.zer,h.apt⟩
theorem TaleIn.cells(h:TaleIn w wr b5 A n c x0 x1 x2 x3 x4 x5 ev sd K v l t cc M):wr.cell? ⟨b5,22,none⟩=some v∧wr.cell? ⟨b5,23,none⟩=some (.int .i64 t)∧wr.frozen? ⟨b5,22,none⟩=false∧wr.frozen? ⟨b5,23,none⟩=false:=⟨(cell_of_row _ b5 22 _ _ (0,0) h.row).trans rfl,(cell_of_row _ b5 23 _ _ (0,0) h.row).trans rfl,frozen_of_row wr b5 22 _ _ h.row,frozen_of_row wr b5 23 _ _ h.row⟩
theorem TaleIn.count(h:TaleIn w wr b5 A n c x0 x1 x2 x3 x4 x5 ev sd K v l t cc M)(d:Nat)(hd:d<2)(hm:MapS w' (b5+1) (putB (nmT 115 d) (.int .i64 ((cc d+1:Nat):Int)) M))(hg:wr.grownBy w' (some (b5+1))):TaleIn w w' b5 A n c x0 x1 x2 x3 x4 x5 ev sd (K+1) v l t (fun q=>if q=d then cc q+1 else cc q) (putB (nmT 115 d) (.int .i64 ((cc d+1:Nat):Int)) M):=by
 have hl:=h.lt;have ha:=h.apt;have hk:Keep (fun b=>b=b5+1) wr w':=Keep.of_grown hg (fun k e=>by injection e with e;exact e.symm);refine⟨(hk.block b5 (by omega) (by omega)).trans h.row,?_,h.inv.up (fun q=>by split<;>omega),hm,fun q hq=>?_,?_,?_,?_,?_,h.apt⟩;·refine h.own.keepB fun b e=>?_;have:=World.ownsRow.lt h.own b e;exact hk.block b this.2 (by omega)
 ·by_cases e:q=d;·subst e;rw[getB_put_same,if_pos rfl];exact⟨rfl,by have:=(h.cnt q hq).2;omega⟩
  ·rw[getB_put_other _ _ (fun hh=>e (nmT_inj (by omega) (by omega) hh)),if_neg e];exact⟨(h.cnt q hq).1,by have:=(h.cnt q hq).2;omega⟩
 ·have:=putB_length_le M (nmT 115 d) (.int .i64 ((cc d+1:Nat):Int));have:=h.siz;omega
 ·exact Below.grown h.bel hg (by have:=h.bel.size;omega) (fun k e=>by injection e with e;omega)
 ·exact(hk.cell (p:=⟨w.heap.size,0,none⟩) (by show w.heap.size<_;omega) (by show¬w.heap.size=_;omega)).trans h.box
 ·exact(hk.block _ (by omega) (by omega)).trans h.zer
theorem TaleIn.step(h:TaleIn w wr b5 A n c x0 x1 x2 x3 x4 x5 ev sd K v l t cc M)(s:Stp)(hi:TlInv (tellsL (l++[s])) cc){v':Value}(ho:OwnP w' (b5+2) v' (l++[s]))(hg:wr.grownBy w' v.ownBlock)(t':Int):TaleIn w ((w'.setCell ⟨b5,22,none⟩ v').setCell ⟨b5,23,none⟩ (.int .i64 t')) b5 A n c x0 x1 x2 x3 x4 x5 ev sd K v' (l++[s]) t' cc M:=by
 have hl:=h.lt;have ha:=h.apt;have hv: ∀k,v.ownBlock=some k→b5+2≤k:=fun k e=>(World.ownsRow.lt h.own k e).1;have hk:Keep (fun b=>b5+2≤b) wr w':=Keep.of_grown hg hv;have hrow:w'.heap[b5]?=_:=(hk.block b5 (by omega) (by omega)).trans h.row;have hrow2:(w'.setCell ⟨b5,22,none⟩ v').heap[b5]?=_:=heap_set_row hrow;have hset: ∀b,b≠b5→((w'.setCell ⟨b5,22,none⟩ v').setCell ⟨b5,23,none⟩ (.int .i64 t')).heap[b]?=w'.heap[b]?:=fun b hb=>(Below.heap_setCell _ _ _ b hb).trans (Below.heap_setCell _ _ _ b hb);have hsz:((w'.setCell ⟨b5,22,none⟩ v').setCell ⟨b5,23,none⟩ (.int .i64 t')).heap.size=w'.heap.size:=by simp[World.setCell]
 refine⟨?_,?_,hi,h.map.block ((hset _ (by omega)).trans (hk.block _ h.map.lt (by omega))),h.cnt,h.siz,?_,?_,?_,h.apt⟩;·rw[heap_set_row hrow2,(taleRow_set x0 x1 x2 x3 x4 x5 ev sd v v' t t').1,(taleRow_set x0 x1 x2 x3 x4 x5 ev sd v' v t t').2]
 ·refine OwnP.keepB ho fun k e=>hset k ?_;have:=(World.ownsRow.lt ho k e).1;omega
 ·have hb:Below w.heap.size w w':=h.bel.trans (hk.below h.bel.size (fun b hb hh=>by omega));exact(hb.setCell (p:=⟨b5,22,none⟩) (by show _≤b5;omega) _).setCell (p:=⟨b5,23,none⟩) (by show _≤b5;omega) _
 ·refine(World.cell?_of_block (w:=w') (a:=⟨w.heap.size,0,none⟩) (hset w.heap.size (by omega))).trans ?_;exact(hk.cell (p:=⟨w.heap.size,0,none⟩) (by show w.heap.size<_;omega) (by show¬_≤w.heap.size;omega)).trans h.box
 ·exact((hset _ (by omega)).trans (hk.block _ (by omega) (by omega))).trans h.zer
theorem made_other{w2 wc:World}{b9:Nat}{f:Array Value}(hT:TaleIn w w2 b5 A n c x0 x1 x2 x3 x4 x5 ev sd K v l t cc M)(h5:w2.heap[b9]?=some (.cells f 158))(hb:Below w2.heap.size w2 wc)(s:Stp)(hs:s.what≠0)(hr:wc.heap[w2.heap.size]?=some (.cells (stpRow s) 92)):MadeR w w2 b5 b9 w2.heap.size f A n c x0 x1 x2 x3 x4 x5 ev sd (K+1) v l t wc:=⟨s,cc,M,hr,(hb.block _ (heap_lt h5)).trans h5,(hT.up hb).more (Nat.le_succ _),by rw[tellsL_snoc,if_neg hs];exact hT.inv,hb.size⟩
theorem made_tell{w2 wc:World}{b9:Nat}{f:Array Value}(hT:TaleIn w w2 b5 A n c x0 x1 x2 x3 x4 x5 ev sd K v l t cc M)(h5:w2.heap[b9]?=some (.cells f 158))(h9:b9≠b5+1)(a p i u:Nat)(at_:Int)(hu:u≤255)(hK:K<1000)(h3:0≤at_)(h4:at_≤100000)(hm:MapS wc (b5+1) (putB (nmT 115 (a/16%2)) (.int .i64 ((cc (a/16%2)+1:Nat):Int)) M))(hk:Keep (fun b=>b=b5+1) w2 wc)(hr:wc.heap[w2.heap.size]?=some (.cells (stpRow ⟨0,toldT a p i u ((cc (a/16%2)+1:Nat):Int) at_,[],t,0,0⟩) 92)):MadeR w w2 b5 b9 w2.heap.size f A n c x0 x1 x2 x3 x4 x5 ev sd (K+1) v l t wc:=by have hd:a/16%2<2:=Nat.mod_lt _ (by omega);have hg:w2.grownBy wc (some (b5+1)):=⟨hk.os,hk.tape,hk.output,hk.size,fun q hq hn=>hk.block q hq (fun e=>hn (by rw[e]))⟩;refine⟨_,_,_,hr,(hk.block _ (heap_lt h5) h9).trans h5,hT.count _ hd hm hg,?_,hk.size⟩;rw[tellsL_snoc,if_pos rfl];exact hT.inv.tell hu (by have:=(hT.cnt _ hd).2;omega) h3 h4
theorem TaleIn.look(h:TaleIn w wr b5 A n c x0 x1 x2 x3 x4 x5 ev sd K v l t cc M)(d:Nat)(hd:d<2):(Instr.lookup 157 (.map (some (b5+1))) (.string ⟨(nmT 115 d).toArray⟩) false).run Tryz.prog wr=.ok (.int .i64 (cc d)) wr:=by have:=h.map.look (nmT 115 d) (by unfold maxLen nmT;simp) 157 3 Tryz.underlying157 (.int .i64 0) (by kernel_rfl);rw[(h.cnt d hd).1]at this;exact this
theorem look_told{wc:World}{M:Row Value}{d:Nat}{q:Int}(h:MapS wc b5 (putB (nmT 115 d) (.int .i64 q) M)):(Instr.lookup 157 (.map (some b5)) (.string ⟨(nmT 115 d).toArray⟩) false).run Tryz.prog wc=.ok (.int .i64 q) wc:=by have:=h.look (nmT 115 d) (by unfold maxLen nmT;simp) 157 3 Tryz.underlying157 (.int .i64 0) (by kernel_rfl);rw[getB_put_same]at this;exact this
end
end Go.Proofs.YtcmmclliabhnjaaGreatDoor
