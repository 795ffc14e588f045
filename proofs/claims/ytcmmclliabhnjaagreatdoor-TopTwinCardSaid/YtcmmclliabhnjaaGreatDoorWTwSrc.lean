/-
  Layer 48: what is made of two intakes may be put together; intake.Of at it.
-/
import Derived.Test.YtcmmclliabhnjaaGreatDoorWTwPl
import Derived.Test.YtcmmclliabhnjaaGreatDoorWPtClk
import Derived.Test.YtcmmclliabhnjaaGreatDoorWClkTold
import Derived.Test.YtcmmclliabhnjaaGreatDoorWOfP
set_option maxRecDepth 100000
set_option maxHeartbeats 16000000
namespace Go.Proofs.YtcmmclliabhnjaaGreatDoor
open Go.RowKit Go.Maps Go.Sort
def slB(p:List UInt8×(Int×Int)):List UInt8:=p.1++numsB [p.2.1,p.2.2]
theorem slB_no{p:List UInt8×(Int×Int)}(h:nameB p.1=true):10∉slB p:=by
 unfold slB;rw[List.mem_append];rintro(h1|h1);·exact(nameB_no h).2 h1
 ·exact numsB_no 10 (by decide) (by decide) (by decide) _ h1
theorem split_src: ∀m:Row (Int×Int),(∀p∈m,nameB p.1=true)→Lib.split (srcB m) [10]=m.map slB++[[]]
 |[],_=>by show Lib.split [] [10]=[[]];exact split_miss 10 [] (by simp)
 |p::m,h=>by
  have e:srcB (p::m)=slB p++10::srcB m:=by show lineB p.1 [p.2.1,p.2.2]++srcB m=_;unfold lineB slB;simp
  rw[e,split_hit 10 _ _ (slB_no (h p (by simp))),split_src m (fun q hq=>h q (List.mem_cons_of_mem _ hq))];rfl
theorem split_encC(c:Clk)(h:ClkOk c):Lib.split (encC c) [10]=([99,108,111,99,107]++numsB [c.slack,c.idle,c.now,c.mark])::(c.src.map slB++[[]]):=by
 have e:encC c=([99,108,111,99,107]++numsB [c.slack,c.idle,c.now,c.mark])++10::srcB c.src:=by unfold encC lineB;simp
 have hn:(10:UInt8)∉([99,108,111,99,107]++numsB [c.slack,c.idle,c.now,c.mark]:List UInt8):=by
  rw[List.mem_append];rintro(h1|h1);·revert h1;decide
  ·exact numsB_no 10 (by decide) (by decide) (by decide) _ h1
 rw[e,split_hit 10 _ _ hn,split_src c.src (fun p hp=>(h.src p hp).1)]
theorem split_line(p:List UInt8×(Int×Int))(h:nameB p.1=true):Lib.split (slB p) [32]=[p.1,Lib.itoa p.2.1,Lib.itoa p.2.2]:=by unfold slB;rw[words_nums _ _ (nameB_no h).1];rfl
theorem split_empty:Lib.split [] [32]=[[]]:=split_miss 32 [] (by simp)
/-!### both -/
theorem joinS_get(a b:Row (Int×Int))(hb:RowUp b)(k:List UInt8):getB (joinS a b) k=match getB b k with|none=>getB a k|some v=>some (match getB a k with|none=>v|some o=>(max v.1 o.1,max v.2 o.2)):=by
 have key: ∀(b m:Row (Int×Int)),RowUp b→getB (b.foldl (fun m p=>putB p.1 (match getB a p.1 with|none=>p.2|some o=>(max p.2.1 o.1,max p.2.2 o.2)) m) m) k=match getB b k with|none=>getB m k|some v=>some (match getB a k with|none=>v|some o=>(max v.1 o.1,max v.2 o.2)):=fun b=>by
  induction b with
   |nil=>intro m _;rfl
   |cons p b ih=>
    intro m hb;obtain⟨hp,hb'⟩:=List.pairwise_cons.1 hb;rw[List.foldl_cons,ih _ hb'];by_cases e:k=p.1
    ·subst e;have hn:getB b p.1=none:=by unfold getB;rw[List.find?_eq_none.2 (fun q hq=>by have:=hp q hq;simp only[beq_iff_eq];intro e;rw[e,bb_irrefl]at this;cases this)];rfl
     rw[hn,getB_put_same];have hh:getB (p::b) p.1=some p.2:=by unfold getB;simp
     rw[hh]
    ·rw[getB_put_other _ _ e];have hh:getB (p::b) k=getB b k:=by unfold getB;rw[List.find?_cons_of_neg (by simpa using fun e'=>e e'.symm)]
     rw[hh]
 exact key b a hb
theorem rowUp_get{α:Type}{a b:Row α}(ha:RowUp a)(hb:RowUp b)(h: ∀k,getB a k=getB b k):a=b:=by
 refine rowUp_ext ha hb fun p=>⟨fun hp=>?_,fun hp=>?_⟩;·have h1:=getB_of_mem ha (show(p.1,p.2)∈a from hp);rw[h]at h1;exact getB_mem h1
 ·have h1:=getB_of_mem hb (show(p.1,p.2)∈b from hp);rw[←h]at h1;exact getB_mem h1
def linesC(x:Clk):List (List UInt8):=([99,108,111,99,107]++numsB [x.slack,x.idle,x.now,x.mark])::(x.src.map slB++[[]])
structure SrIn(w wr:World)(bm bl:Nat)(x:Clk)(k:Nat):Prop where
 map:MapS wr bm (srcRow (x.src.take k))
 row:wr.heap[bl]?=some (.cells ((linesC x).map encStr).toArray 9)
 bel:Below w.heap.size w wr
 low:w.heap.size≤bm
 ne:bm≠bl
theorem SrIn.up{w wr w':World}{bm bl:Nat}{x:Clk}{k:Nat}(h:SrIn w wr bm bl x k)(hb:Below wr.heap.size wr w'):SrIn w w' bm bl x k:=⟨h.map.block (hb.block _ h.map.lt),(hb.block _ (heap_lt h.row)).trans h.row,h.bel.trans (hb.mono h.bel.size),h.low,h.ne⟩
theorem SrIn.put{w wr w':World}{bm bl:Nat}{x:Clk}{k:Nat}(h:SrIn w wr bm bl x k)(hx:RowUp x.src)(hk:k<x.src.length)(hm:MapS w' bm (putB x.src[k].1 (encSrc x.src[k].2) (srcRow (x.src.take k))))(hg:wr.grownBy w' (some bm)):SrIn w w' bm bl x (k+1):=by
 have e1:x.src.take (k+1)=x.src.take k++[x.src[k]]:=by rw[List.take_add_one,List.getElem?_eq_getElem hk,Option.toList_some]
 refine⟨?_,(hg.block _ (heap_lt h.row) (fun e=>h.ne (by injection e with e;exact e.symm))).trans h.row,Below.grown h.bel hg h.bel.size (fun q e=>by injection e with e;rw[←e];exact h.low),h.low,h.ne⟩;have e2:putB x.src[k].1 (encSrc x.src[k].2) (srcRow (x.src.take k))=srcRow (x.src.take (k+1)):=by have hp:=putB_last x.src[k].1 x.src[k].2 (x.src.take k) fun q hq=>(List.pairwise_append.1 (e1▸hx.sublist (List.take_sublist (k+1) _))).2.2 q hq x.src[k] (by simp);unfold srcRow;rw[←putB_map encSrc,hp,e1]
 rw[e2]at hm;exact hm
def SrRel(w:World)(bm bl:Nat)(x:Clk)(i:Value)(wr:World):Prop:= ∃k:Nat,i=.int .i64 k∧k≤x.src.length+1∧SrIn w wr bm bl x k
def SrcsPost(w:World)(m:Row (Int×Int))(e:Ending)(w':World):Prop:= ∃b,e=.returned (.map (some b))∧MapS w' b (srcRow m)∧w.heap.size≤b∧Below w.heap.size w w'
theorem twsrcs_any(w:World)(A:Option Addr)(n c:Nat)(x:Clk)(hx:ClkOk x)(h:Byt w w.heap.size A n c (encC x))(hl:(encC x).length≤100000000)(hsl:x.src.length≤1000000)(hm:MaxAt w):Calls Tryz.prog 106 #[.slice A n c] w (SrcsPost w x.src):=by
 have hmm:= @run_makeMap Tryz.prog;have hb1:Below w.heap.size w (w.alloc (.map #[] 0)):=(Below.refl _ _).alloc (Nat.le_refl _) _;have hcv:=(Byt.below h hb1).str (P:=Tryz.prog) 22 5 9 Tryz.underlying22 Tryz.underlying5 Tryz.underlying9;have HX:=qH hx;have HM:=qH hm;have HSP:=qH (splits_any (w.alloc (.map #[] 0)) (encC x) 10 (by omega) (hm.up hb1));have HLC:=qH (show Lib.split (encC x) [10]=linesC x from split_encC x hx);rw[HLC.out]at HSP;have hll:(linesC x).length=x.src.length+2:=by unfold linesC;simp
 have hs1:(w.alloc (.map #[] 0)).heap.size=w.heap.size+1:=by simp
 have HST:=qH (show∀w2,w2=(w.alloc (.map #[] 0)).alloc (.cells ((linesC x).map encStr).toArray 9)→SrRel w w.heap.size (w.heap.size+1) x (.int .i64 ((0:Nat):Int)) w2 from fun w2 e=>by
  subst e;refine⟨0,rfl,by omega,?_,?_,hb1.alloc hb1.size _,Nat.le_refl _,by omega⟩;·rw[List.take_zero];exact MapS.block (MapS.made w) (heap_alloc_old _ _ (by simp))
  ·have h:=heap_alloc_new (w.alloc (.map #[] 0)) (.cells ((linesC x).map encStr).toArray 9);rw[hs1]at h;exact h);clear h hm hx hb1;go_enter Tryz.func106,Tryz.ntmps106;go_wp2_with fail;refine HSP.out.mono ?_;rintro r w2⟨rfl,hw2⟩;have HS2:=qH (HST.out w2 hw2);rw[hll,hs1];clear hmm hcv hw2 HST HSP;go_wp2;go_loopw[17](fun i wr=>SrRel w w.heap.size (w.heap.size+1) x i wr)(fun i _=>x.src.length+1-(intOf i).toNat);case atStart=>exact HS2.out
 case round=>
  obtain⟨k,rfl,hk,hin⟩:=hrel;have HIN:=qH hin;have kr:=fun o=>cell_of_row wr (w.heap.size+1) o _ _ (0,0) hin.row;have hbel:=hin.bel;have HMR:=qH (HM.out.up hbel);by_cases hkm:k<x.src.length
  ·have t0:(k:Int)<x.src.length+1:=by omega
   obtain⟨p,hp⟩: ∃p,p=x.src[k]:=⟨_,rfl⟩;have hps:=HX.out.src p (by rw[hp];exact List.getElem_mem hkm);have HPS:=qH hps;have hnow:=HX.out.now;have HNM:=qH hnow;have kc:wr.cell? ⟨w.heap.size+1,1+k,none⟩=some (.string ⟨(slB p).toArray⟩):=by
    rw[kr (1+k),Nat.add_comm 1 k];have h1:(linesC x)[k+1]?=some (slB p):=by unfold linesC;rw[List.getElem?_cons_succ,List.getElem?_append_left (by simpa using hkm),List.getElem?_map,List.getElem?_eq_getElem hkm,hp];rfl
    rw[List.getElem?_toArray,List.getElem?_map,h1];rfl
   have hnm:p.1.length≤24:=by have h:=hps.1;unfold nameB at h;simp at h;exact h.1.2
   have HNL:=qH hnm;have hsl:(slB p).length≤1000:=by have hnl:=numsB_len [p.2.1,p.2.2] (by intro v hv;simp at hv;rcases hv with rfl|rfl<;>omega);unfold slB;simp at hnl⊢;omega
   have HSS:=qH (splits_any wr (slB p) 32 (by omega) HMR.out);rw[split_line p hps.1]at HSS;have HPU:=qH (show∀W w',Below wr.heap.size wr W→MapS w' w.heap.size (putB p.1 (encSrc p.2) (srcRow (x.src.take k)))→W.grownBy w' (some w.heap.size)→SrRel w w.heap.size (w.heap.size+1) x (.int .i64 ((k:Int)+1)) w' from fun W w' hW hm hg=>⟨k+1,by go_num,by omega,(HIN.out.up hW).put HX.out.rising hkm (hp▸hm) hg⟩);have hrl:(srcRow (x.src.take k)).length<maxLen:=by unfold srcRow maxLen;simp;omega
   have HMM:=qH (show∀W,Below wr.heap.size wr W→MapS W w.heap.size (srcRow (x.src.take k))from fun W hW=>(HIN.out.up hW).map);clear hp hps hsl kr hin hbel HIN hnow;generalize slB p=sl at*;generalize srcRow (x.src.take k)=sr at*;go_wp2_with fail;with_reducible refine HSS.out.mono ?_
   rintro r w2⟨rfl,hw2⟩;have hcs:w2.heap[wr.heap.size]?=some (.cells #[.string ⟨p.1.toArray⟩,.string ⟨(Lib.itoa p.2.1).toArray⟩,.string ⟨(Lib.itoa p.2.2).toArray⟩] 9 (0,0)):=by rw[hw2];exact heap_alloc_new wr _
   have hb2:Below wr.heap.size wr w2:=by rw[hw2];exact(Below.refl _ _).alloc (Nat.le_refl _) _
   have hlt2:wr.heap.size<w2.heap.size:=(Array.getElem?_eq_some_iff.1 hcs).1;have HCS:=qH hcs;have HB2:=qH hb2;have x1:w2.cell? ⟨wr.heap.size,1,none⟩=some (.string ⟨(Lib.itoa p.2.1).toArray⟩):=(cell_of_row w2 _ 1 _ _ (0,0) hcs).trans rfl;clear hw2 hcs hb2 HSS kc;go_wp2_with fail;with_reducible refine(atoi_num w2 p.2.1 (by have:=HPS.out;omega) (by have:=HPS.out;omega)).mono ?_
   rintro r w3⟨rfl,hb3⟩;have hb3':w3.heap[wr.heap.size]?=_:=(hb3.block _ hlt2).trans HCS.out;have x2:w3.cell? ⟨wr.heap.size,2,none⟩=some (.string ⟨(Lib.itoa p.2.2).toArray⟩):=(cell_of_row w3 _ 2 _ _ (0,0) hb3').trans rfl;have HB3:=qH (HB2.out.trans (hb3.mono HB2.out.size));have HC3:=qH hb3';have hlt3:wr.heap.size<w3.heap.size:=(Array.getElem?_eq_some_iff.1 hb3').1;clear hb3 hb3' x1;go_wp2_with fail;with_reducible refine(atoi_num w3 p.2.2 (by have:=HPS.out;have:=HNM.out;omega) (by have:=HPS.out;have:=HNM.out;omega)).mono ?_
   rintro r w4⟨rfl,hb4⟩;have HB4:=qH (HB3.out.trans (hb4.mono HB3.out.size));have hb4':w4.heap[wr.heap.size]?=_:=(hb4.block _ hlt3).trans HC3.out;have x0:w4.cell? ⟨wr.heap.size,0,none⟩=some (.string ⟨p.1.toArray⟩):=(cell_of_row w4 _ 0 _ _ (0,0) hb4').trans rfl;clear hb4 hb4' x2;have HM4:=qH (HMM.out w4 HB4.out);clear HMM;go_wp2_with(at_mapUpdate;refine wpList_mapS_put rfl (.tmp 40) (.tmp 43) (.tmp 46) 180 183 rfl Tryz.underlying180 w.heap.size sr rfl HM4.out hrl p.1 rfl (by unfold maxLen;omega) (encSrc p.2) rfl ?_;intro w8 hm8 hg8);have HRL:=qH (HPU.out w4 w8 HB4.out hm8 hg8);clear hm8 hg8 HPU x0;go_wp2;go_roundw;case rel=>first|exact HRL.out|((repeat apply Exists.intro);exact⟨HRL.out,rfl⟩)
   case measure=>simp[intOf];omega
  ·by_cases hk1:k=x.src.length
   ·subst hk1;have kc:wr.cell? ⟨w.heap.size+1,1+x.src.length,none⟩=some (.string ⟨#[]⟩):=by
     rw[kr (1+x.src.length),Nat.add_comm 1 _];have h1:(linesC x)[x.src.length+1]?=some []:=by unfold linesC;rw[List.getElem?_cons_succ,List.getElem?_append_right (by simp)];simp
     rw[List.getElem?_toArray,List.getElem?_map,h1];rfl
    have HSS:=qH (splits_any wr [] 32 (by simp) HMR.out);rw[split_empty]at HSS;have HRL:=qH (show∀W,Below wr.heap.size wr W→SrRel w w.heap.size (w.heap.size+1) x (.int .i64 ((x.src.length:Int)+1)) W from fun W hW=>⟨x.src.length+1,by go_num,Nat.le_refl _,by have h:=HIN.out.up hW;exact⟨by rw[show x.src.take (x.src.length+1)=x.src.take x.src.length from by rw[List.take_of_length_le (Nat.le_succ _),List.take_length]];exact h.map,h.row,h.bel,h.low,h.ne⟩⟩);clear hin hbel kr HIN;go_wp2_with fail;with_reducible refine HSS.out.mono ?_
    rintro r w2⟨rfl,hw2⟩;have HRM:=qH (HRL.out w2 (by rw[hw2];exact(Below.refl _ _).alloc (Nat.le_refl _) _));clear hw2 HRL HSS kc;go_wp2;go_roundw;case rel=>first|exact HRM.out|((repeat apply Exists.intro);exact⟨HRM.out,rfl⟩)
    case measure=>simp[intOf]
   ·obtain rfl:k=x.src.length+1:=by omega
    have HF:=qH (show SrcsPost w x.src (.returned (.map (some w.heap.size))) wr from⟨_,rfl,by have h:=hin.map;rw[show x.src.take (x.src.length+1)=x.src from List.take_of_length_le (by omega)]at h;exact h,Nat.le_refl _,hbel⟩);clear hin hbel kr HIN;go_wp2;go_ret;exact HF.out
open Go.Shelf
theorem stays_eq{g g':List (List UInt8)}(h: ∀p,p∈g↔p∈g')(e:Ev):staysB g e=staysB g' e:=by unfold staysB;rw[decide_eq_decide.2 (h e.per)]
theorem mg_tpe{g gs:List (List UInt8)}(h: ∀p,p∈gs↔p∈g)(l:List Ev):(l.filter fun e=>!(!staysB gs e))=l.filter (staysB g):=List.filter_congr fun e _=>by rw[Bool.not_not,stays_eq h]
theorem mg_lpe{g gs:List (List UInt8)}(h: ∀p,p∈gs↔p∈g)(m:Had)(l:List Ev):(l.filter fun e=>!(hadB m e.src e.num||!staysB gs e))=(l.filter (staysB g)).filter fun e=>!hadB m e.src e.num:=by rw[List.filter_filter];exact List.filter_congr fun e _=>by rw[Bool.not_or,Bool.not_not,stays_eq h]
theorem mg_good{bt:Ev→Ev→Bool}{x y z:Itk}{N M:Nat}(h:MgI bt x y z)(gx:PtGood N x)(gy:PtGood M y):PtGood (N+M) z:=⟨h.play gx.play gy.play,h.pt gx.pt gy.pt,by rw[h.clk];exact gx.clk.join gy.clk,h.itkOk gx.ok gy.ok gx.play.ok gy.play.ok,by rw[h.gone,List.length_append];have:=gx.gone;have:=gy.gone;omega⟩
theorem mg_si{bt:Ev→Ev→Bool}{x y z:Itk}(h:MgI bt x y z):z.clk.slack=x.clk.slack∧z.clk.idle=x.clk.idle:=by rw[h.clk];exact⟨(rise_four _).2.1,(rise_four _).2.2.1⟩
theorem of_good{w:World}{N:Nat}{x:Itk}(hx:PtGood N x)(hN:N≤600){Ac Ah At Al Ag:Option Addr}{nc kc nh kh nt kt nl kl ng kg:Nat}{r:List (List UInt8)}(h1:Byt w w.heap.size Ac nc kc (encC x.clk))(h2:Byt w w.heap.size Ah nh kh (encH x.had))(h3:Evs w w.heap.size At nt kt x.taken)(h4:Evs w w.heap.size Al nl kl x.late)(h5:Strs w w.heap.size Ag ng kg r)(hr:Rising r x.gone)(hm:MaxAt w)(he:ErrsAt w)(ht:Lib.TabBelow Tryz.prog w.heap.size w "internal/strconv.uint64pow10" .u64 Lib.pow10Tab):Calls Tryz.prog 49 #[ptsAgg x.clk.slack x.clk.idle (.slice Ac nc kc) (.slice Ah nh kh) (.slice At nt kt) (.slice Al nl kl) (.slice Ag ng kg)] w (AgainPost w N x):=by
 have hrl:=rising_lenO hr;have hlc:=hx.encC_len;have e1:=h1.len;have e2:=h2.len;have e3:=h3.len;have e4:=h4.len;have e5:=h5.len;refine(of_any w N Ac Ah At Al Ag nc kc nh kh nt kt nl kl ng kg x.clk.slack x.clk.idle (encC x.clk) (encH x.had) x.taken x.late r {clk:=h1,had:=h2,tk:=h3,le:=h4,gn:=h5,hnc:=by omega,hnh:=by have:=hx.encH_len hN;omega,hnt:=by have:=hx.ok.taken;omega,hnl:=by have:=hx.ok.late;omega,hng:=by have:=hx.gone;omega,hN:=by omega,st:=fun e he=>mayB_smallO (hx.ok.may e (.inl he)),sl:=fun e he=>mayB_smallO (hx.ok.may e (.inr he)),max:=hm,errs:=he,tab:=ht,bd:=hx.bd hN}).mono ?_;rintro e w'⟨hb,⟨c,m,bi,F,hp,rfl,hi,hF⟩|⟨er,rfl,h1,h2⟩⟩
 ·have e1:c=x.clk:=by have:=hp.dc;rw[hx.dc]at this;injection this with this;exact this.symm
  have e2:m=x.had:=by obtain⟨q,hq⟩:=hp.dh;rw[hx.dh hN]at hq;injection hq with hq _;exact hq.symm
  subst e1 e2;exact⟨bi,F,rfl,ItkAt.congrG hi hr.2,hb,hF⟩
 ·exact absurd (hx.parts hN hr) (h2 _ _)
end Go.Proofs.YtcmmclliabhnjaaGreatDoor
