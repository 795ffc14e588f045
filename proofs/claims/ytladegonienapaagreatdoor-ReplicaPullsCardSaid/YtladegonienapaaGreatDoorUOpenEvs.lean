/-
  A world for the witness: the settled one, where the five tables and the two errors that the row lists hold what their initialisers lay; and what the row's list gives a walk.
-/
import Derived.Test.YtladegonienapaaGreatDoorUJl5
import Derived.ProofKit
import Derived.OpenShut
import Derived.ShutString
import Derived.ChangeOld
import Derived.Deep.Slices
import Derived.SizedLaws
import Derived.Stop.LaidErr
import Derived.Lib.LaidTab
import Derived.Lib.AppendIntMem
set_option maxRecDepth 100000
set_option maxHeartbeats 16000000
namespace Go.Proofs.YtladegonienapaaGreatDoor
open Go.RowKit Go.Maps Go.Sort
theorem Kc:(Tryz.prog.info? 3).map (fun i=>(i.zero,i.size,i.bytes))=some (some (.int .i64 0),1,8):=by kernel_rfl
def mZ:Int→List (Option Ev)→List Int|_,[]=>[]|f,none::l=>mZ (f+1) l|f,some _::l=>f::mZ (f+1) l
def bU(l:List (Option Ev)):List Ev:=l.filterMap id
theorem oQ(x:Option Ev): ∀(l:List (Option Ev))(f:Int),mZ f (l++[x])=mZ f l++(if x.isSome then[f+l.length]else[])
 |[],f=>by cases x<;>simp[mZ]
 |none::l,f=>by
  simp only[List.cons_append,mZ,oQ x l (f+1),List.length_cons];congr 1;split;·congr 1;omega
  ·rfl
 |some e::l,f=>by
  simp only[List.cons_append,mZ,oQ x l (f+1),List.length_cons];congr 2;split;·congr 1;omega
  ·rfl
theorem xc: ∀(l:List (Option Ev))(f:Int),(mZ f l).length=(bU l).length|[],_=>rfl|none::l,f=>by simp only[mZ,xc l];rfl|some e::l,f=>by simp only[mZ,List.length_cons,xc l];rfl
theorem oP(l:List (Option Ev))(x:Option Ev):bU (l++[x])=bU l++x.toList:=by unfold bU;rw[List.filterMap_append];cases x<;>rfl
theorem vP(l:List (Option Ev)):(bU l).length≤l.length:=List.length_filterMap_le _ _
def uN(l:List Int):List Value:=l.map (Value.int .i64)
def KZ(w:World)(base:Nat)(v:Value)(l:List Int):Prop:=w.ownsRow base 3 1 v l.length (uN l)
theorem ax.mid{w:World}{B size n c:Nat}{A:Option Addr}{xs:List Value}(h:ax w B size A n c xs)(lo m:Nat)(hm:lo+m≤n):ax w B size (if c=lo then A else A.map (·.add (lo*size))) m (c-lo) ((xs.drop (lo*size)).take (m*size)):=(h.from_ lo (by omega)).upto m (by omega)
theorem iJ: ∀(l:List (Option Ev))(m:Nat),(av l).drop (m*9)=av (l.drop m)|[],m=>by simp[av]|x::l,0=>by simp|x::l,m+1=>by have h9:=jo x;have e1:av (x::l)=jZ x++av l:=rfl;rw[e1,List.drop_succ_cons,←iJ l m,show(m+1)*9=(jZ x).length+m*9 by omega,List.drop_append];simp
theorem fV: ∀(l:List (Option Ev))(m:Nat),(av l).take (m*9)=av (l.take m)|[],m=>by simp[av]|x::l,0=>by simp[av]|x::l,m+1=>by have h9:=jo x;have e1:av (x::l)=jZ x++av l:=rfl;have e2:av ((x::l).take (m+1))=jZ x++av (l.take m):=rfl;rw[e1,e2,←fV l m,show(m+1)*9=(jZ x).length+m*9 by omega,List.take_append,List.take_of_length_le (by omega),Nat.add_sub_cancel_left]
def oM(w:World)(B:Nat)(A:Option Addr)(n c:Nat)(l:List (Option Ev)):Prop:=ax w B 9 A n c (av l)
theorem oM.len{w:World}{B n c:Nat}{A:Option Addr}{l:List (Option Ev)}(h:oM w B A n c l):l.length=n:=by have:=ax.len h;rw[bB]at this;omega
abbrev Jh(w:World)(b o:Nat)(x:Option Ev):Prop:=w.cell? ⟨b,o,none⟩=some (.string ⟨(dw x).src.toArray⟩)∧w.cell? ⟨b,o+1,none⟩=some (.int .i64 (dw x).num)∧w.cell? ⟨b,o+2,none⟩=some (.int .i64 (dw x).at_)∧w.cell? ⟨b,o+3,none⟩=some (.int .i64 (dw x).kind)∧w.cell? ⟨b,o+4,none⟩=some (.string ⟨(dw x).per.toArray⟩)∧w.cell? ⟨b,o+5,none⟩=some (.string ⟨(dw x).item.toArray⟩)∧w.cell? ⟨b,o+6,none⟩=some (.int .i64 (dw x).val)∧w.cell? ⟨b,o+7,none⟩=some (.string ⟨(dw x).text.toArray⟩)∧w.cell? ⟨b,o+8,none⟩=some (.bool x.isNone)
theorem oM.at_{w:World}{B n c:Nat}{A:Option Addr}{l:List (Option Ev)}(h:oM w B A n c l)(k:Nat)(hk:k<l.length): ∃b off,A=some ⟨b,off,none⟩∧b<B∧Jh w b (off+k*9) l[k]:=by
 have hl:=h.len;obtain⟨b,off,e,hb,hc⟩:=ax.cell h (by omega);have key: ∀j u,j<9→(jZ l[k])[j]?=some u→w.cell? ⟨b,off+k*9+j,none⟩=some u:=fun j u hj hu=>by rw[Nat.add_assoc];exact hc _ u ((Bi l k j hk hj).trans hu)
 rw[vW]at key;exact⟨b,off,e,hb,key 0 _ (by omega) rfl,key 1 _ (by omega) rfl,key 2 _ (by omega) rfl,key 3 _ (by omega) rfl,key 4 _ (by omega) rfl,key 5 _ (by omega) rfl,key 6 _ (by omega) rfl,key 7 _ (by omega) rfl,key 8 _ (by omega) rfl⟩
theorem Jh.below{w w':World}{b o B:Nat}{x:Option Ev}(h:Jh w b o x)(hb:Below B w w')(hB:b<B):Jh w' b o x:=by obtain⟨h0,h1,h2,h3,h4,h5,h6,h7,h8⟩:=h;have key: ∀(o:Nat)u,w.cell? ⟨b,o,none⟩=some u→w'.cell? ⟨b,o,none⟩=some u:=fun o u hu=>(hb.cell (p:=⟨b,o,none⟩) hB).trans hu;exact⟨key _ _ h0,key _ _ h1,key _ _ h2,key _ _ h3,key _ _ h4,key _ _ h5,key _ _ h6,key _ _ h7,key _ _ h8⟩
def Jl.pX(j:Jl)(a b:Int):Bool:=decide (a<0)||decide ((j.es.length:Int)<a)||decide (b<0)
def Jl.uB(j:Jl)(a b:Int):List (Option Ev):=(j.es.drop a.toNat).take (min b (j.es.length-a)).toNat
def wB(w:World)(evs:List Ev)(ats:List Int)(er:Int)(e:Ending)(w':World):Prop:= ∃v u,e=.returned (.tuple #[v,u,.int .i64 er])∧bq w' w.heap.size v evs∧KZ w' w.heap.size u ats∧Below w.heap.size w w'
def BB(w:World)(f:Int)(l:List (Option Ev))(v u i:Value)(wr:World):Prop:= ∃k:Nat,i=.int .i64 k∧k≤l.length∧bq wr w.heap.size v (bU (l.take k))∧KZ wr w.heap.size u (mZ f (l.take k))∧Below w.heap.size w wr
def iq(w:World)(j:Jl)(a b:Int)(e:Ending)(w':World):Prop:=wB w (if j.pX a b then[]else bU (j.uB a b)) (if j.pX a b then[]else mZ a (j.uB a b)) (if j.pX a b then 9 else 0) e w'
theorem xw(w:World)(G F:Nat→Prop)(bj bd:Nat)(j:Jl)(h:gT w G F bj bd j)(a b:Int):Calls Tryz.prog 79 #[.pointer (some ⟨bj,0,none⟩),.int .i64 a,.int .i64 b] w (iq w j a b):=by
 obtain⟨ho,v,hj⟩:=h;have c4:=hj.cells.2.2.2.2.1;obtain⟨A,c,hv⟩:=ownsRow_form hj.own;have aaQ:=ho.num;have HO:=qS (oM w w.heap.size A j.es.length c j.es) (by have:=hj.own;rw[hv]at this;exact ax.aQ this);rw[hv]at c4;have HB:=qS (j.pX a b=(decide (a<0)||decide ((j.es.length:Int)<a)||decide (b<0))) (rfl);clear hj ho hv;have nu:=qS (j.pX a b=true→iq w j a b (.returned (.tuple #[.slice none 0 0,.slice none 0 0,.int .i64 9])) w) (fun h=>by unfold iq;rw[if_pos h,if_pos h,if_pos h];exact⟨_,_,rfl,World.ownsRow_nil _ _ _ _,World.ownsRow_nil _ _ _ _,Below.refl _ _⟩);generalize hn:j.es.length=n at*;have HN:=qH hn;by_cases h1:a<0;·have HR:=qH (nu.o (by rw[HB.o,decide_eq_true h1];rfl));go_enter Tryz.func79,Tryz.ntmps79;go_wp2;go_ret3;exact HR.o
 by_cases h2:(n:Int)<a;·have HR:=qH (nu.o (by rw[HB.o,decide_eq_true h2];simp));go_enter Tryz.func79,Tryz.ntmps79;go_wp2;go_ret3;exact HR.o
 by_cases h3:b<0;·have HR:=qH (nu.o (by rw[HB.o,decide_eq_true h3];simp));go_enter Tryz.func79,Tryz.ntmps79;go_wp2;go_ret3;exact HR.o
 have hbad:j.pX a b=false:=by rw[HB.o,decide_eq_false h1,decide_eq_false h2,decide_eq_false h3];rfl
 obtain⟨lo,rfl⟩:=Int.eq_ofNat_of_zero_le (show 0≤a by omega);obtain⟨m,hm⟩: ∃m:Nat,(m:Int)=min b ((n:Int)-lo):=⟨(min b ((n:Int)-lo)).toNat,by omega⟩;have hseg:j.uB lo b=(j.es.drop lo).take m:=by unfold Jl.uB;rw[hn,←hm];simp
 have HP:=qS (∀e w',wB w (bU ((j.es.drop lo).take m)) (mZ lo ((j.es.drop lo).take m)) 0 e w'→iq w j lo b e w') (fun e w' h=>by unfold iq;rw[hbad,hseg];exact h);have hlm:lo+m≤n:=by omega
 have BH:=qS (((j.es.drop lo).take m).length=m) (by simp[hn];omega);have HC:=qS (oM w w.heap.size (if c=lo then A else A.map (·.add (lo*9))) m (c-lo) ((j.es.drop lo).take m)) (by have:=ax.mid HO.o lo m hlm;unfold oM;rw[←fV,←iJ];exact this);have hcap:n≤c:=ax.cap HO.o;generalize(j.es.drop lo).take m=bC at*;clear hbad hseg hn nu HB HO;have hm':=hm.symm;clear hm;go_enter Tryz.func79,Tryz.ntmps79;obtain⟨A',c',RO⟩: ∃A' c',(if c=lo then A else A.map (·.add (lo*9)))=A'∧c-lo=c':=⟨_,_,rfl,rfl⟩;rw[RO.1,RO.2]at HC;have HST:=qS (BB w lo bC (.slice none 0 0) (.slice none 0 0) (.int .i64 ((0:Nat):Int)) w) (⟨0,rfl,Nat.zero_le _,World.ownsRow_nil _ _ _ _,World.ownsRow_nil _ _ _ _,Below.refl _ _⟩);by_cases hcl:c=lo;case' pos=>
  rw[if_pos hcl]at RO;have hc0:c-lo=0:=by omega
  have Vx:=qH RO;clear RO;go_wp2;rw[show Value.slice A m 0=.slice A' m c' by rw[←Vx.o.1,←Vx.o.2,hc0]]
 case' neg=>rw[if_neg hcl]at RO;have Vx:=qH RO;clear RO;go_wp2;rw[show Value.slice (Option.map (fun x=>x.add (lo*9)) A) m (c-lo)=.slice A' m c' by rw[←Vx.o.1,←Vx.o.2]]
 all_goals
  clear Vx c4 hm' hcl hcap;go_loopw[9,10,47](fun v u i wr=>BB w lo bC v u i wr)(fun _ _ i _=>m-(intOf i).toNat);case atStart=>exact HST.o
  case round=>
   obtain⟨k,rfl,hk,hov,hou,hbel⟩:=hrel;have HV:=qH hov;have HU:=qH hou;have sG:=qH hbel;clear hov hou;have Vb:k≤m:=by rw[←BH.o];exact hk
   by_cases hkn:k<m
   ·have hkl:k<bC.length:=by rw[BH.o];exact hkn
    obtain⟨b',off,Wv,hb,hd⟩:=HC.o.at_ k hkl;obtain⟨e0,e1,e2,e3,e4,e5,e6,e7,e8⟩:=hd.below hbel hb;have df:=qS (bC.take (k+1)=bC.take k++[bC[k]]) (by rw[List.take_add_one,List.getElem?_eq_getElem hkl,Option.toList_some]);have bL:Below w.heap.size w (wr.alloc (bR bC[k])):=hbel.alloc hbel.size _;have qR:=qH bL;have hlk:(bC.take k).length=k:=by rw[List.length_take];omega
    have hle:=vP (bC.take k);have ZR:=qH (World.ownsRow.alloc HV.o (bR bC[k]));have HUA:=qH (World.ownsRow.alloc HU.o (bR bC[k]));have hsA:(wr.alloc (bR bC[k])).heap.size=wr.heap.size+1:=by simp
    have hin:=lD.new wr bC[k];subst Wv;have t1:(k:Int)<m:=by omega
    generalize bC[k]=x at*;clear hd hb bL;obtain⟨f0,f1,f2,f3,f4,f5,f6,f7,f8⟩:=hin;cases ER:x.isNone
    ·obtain⟨e,rfl⟩: ∃e,x=some e:=by cases x with|none=>simp at ER|some e=>exact⟨e,rfl⟩
     simp only[dw,Option.getD_some]at e0 e1 e2 e3 e4 e5 e6 e7 f0 f1 f2 f3 f4 f5 f6 f7;have jA:=qS (∀v' u' w3,bq w3 w.heap.size v' (bU (bC.take k)++[e])→KZ w3 w.heap.size u' (mZ lo (bC.take k)++[(lo:Int)+k])→Below w.heap.size w w3→BB w lo bC v' u' (.int .i64 ((k+1:Nat):Int)) w3) (fun v' u' w3 h1 h2 h3=>by
      refine⟨k+1,rfl,by omega,?_,?_,h3⟩;·rw[df.o,oP];exact h1
      ·rw[df.o,oQ,Option.isSome_some,if_pos rfl,hlk];exact h2);obtain⟨i0,hi,hz0,hz1,hz2⟩:=info_parts jg;have HI:=qH hi;have HZ0:=qH hz0;have HZ1:=qH hz1;have HZ2:=qH hz2;clear hi hz0 hz1 hz2 df;obtain⟨j0,hi,hz0,hz1,hz2⟩:=info_parts Kc;have KI:=qH hi;have KZ0:=qH hz0;have KZ1:=qH hz1;have KZ2:=qH hz2;clear hi hz0 hz1 hz2;have hlu:=xc (bC.take k) lo;simp only[Option.isNone_some]at e8 f8;go_wp2_with(at_builtin;refine aj (P:=Tryz.prog) rfl (.tmp 55) (.tmp 58) 22 rfl 28 i0 _ 8 96 Tryz.underlying22 HI.o HZ0.o HZ1.o HZ2.o rfl (by decide) w.heap.size _ (bU (bC.take k)).length (ai (bU (bC.take k))) rfl ?c1 (wr.heap.size+1+1) _ _ _ e.cells rfl ?c2 (cells_one e) ?c4 ?c5 ?c6 ?_);case c1=>exact World.ownsRow.alloc ZR.o _
     case c2=>have:=ax.new (size:=8) (n:=1) (wr.alloc (bR (some e))) #[.string ⟨e.src.toArray⟩,.int .i64 e.num,.int .i64 e.at_,.int .i64 e.kind,.string ⟨e.per.toArray⟩,.string ⟨e.item.toArray⟩,.int .i64 e.val,.string ⟨e.text.toArray⟩] 28 (by unfold maxLen;omega) rfl;rw[hsA]at this;exact this
     case c4=>unfold maxLen;omega
     case c5=>omega
     case c6=>have:=qR.o.size;first|omega|(simp;omega)
     intro v' w2 hown2 hg2 _;have ZT:=qS (bq w2 w.heap.size v' (bU (bC.take k)++[e])) (by unfold bq;rw[dP,List.length_append];exact hown2);have hbl2:Below w.heap.size w w2:=Below.grown (qR.o.alloc qR.o.size _) hg2 (by have:=qR.o.size;first|omega|(simp;omega)) (fun k' hk'=>(World.ownsRow.lt ZR.o k' hk').1);have HB2:=qH hbl2;have ZW:=qS (KZ w2 w.heap.size u10 (mZ lo (bC.take k))) (World.ownsRow.kept (World.ownsRow.alloc HUA.o _) hg2 (dR HU.o HV.o (by decide)));have hsz2:wr.heap.size+2≤w2.heap.size:=by have:=hg2.size;simp at this;omega
     clear hown2 hg2 hbl2 f0 f1 f2 f3 f4 f5 f6 f7 f8 e0 e1 e2 e3 e4 e5 e6 e7 e8;go_wp2_with(at_builtin;refine aj (P:=Tryz.prog) rfl (.tmp 60) (.tmp 64) 55 rfl 3 j0 _ 1 8 Tryz.underlying55 KI.out KZ0.out KZ1.out KZ2.out rfl (by decide) w.heap.size _ (mZ lo (bC.take k)).length (uN (mZ lo (bC.take k))) rfl ?c1 (w2.heap.size+1) _ _ _ [.int .i64 ((lo:Int)+k)] rfl ?c2 ?c3 ?c4 ?c5 ?c6 ?_);case c1=>exact World.ownsRow.alloc ZW.o _
     case c2=>exact ax.new (size:=1) (n:=1) w2 #[.int .i64 ((lo:Int)+k)] 3 (by unfold maxLen;omega) rfl
     case c3=>intro u hu;simp at hu;subst hu;rfl
     case c4=>unfold maxLen;omega
     case c5=>omega
     case c6=>have:=HB2.o.size;first|omega|(simp;omega)
     intro u' w3 hown3 hg3 _;have HU3:=qS (KZ w3 w.heap.size u' (mZ lo (bC.take k)++[(lo:Int)+k])) (by unfold KZ uN;rw[List.map_append,List.length_append,hlu];exact hown3);have Si:=qS (bq w3 w.heap.size v' (bU (bC.take k)++[e])) (World.ownsRow.kept (World.ownsRow.alloc ZT.o _) hg3 (dR ZT.o ZW.o (by decide)));have HB3:=qS (Below w.heap.size w w3) (Below.grown (HB2.o.alloc HB2.o.size _) hg3 (by have:=HB2.o.size;first|omega|(simp;omega)) (fun k' hk'=>(World.ownsRow.lt ZW.o k' hk').1));have lX:=qH (jA.o v' u' w3 Si.o HU3.o HB3.o);clear hown3 hg3;go_wp2;go_roundw;case rel=>exact lX.o
     case measure=>simp[intOf];omega
    ·have hx:x=none:=by cases x with|none=>rfl|some e=>simp at ER
     rw[ER]at e8 f8;have lX:=qS (BB w lo bC u9 u10 (.int .i64 ((k+1:Nat):Int)) (wr.alloc (bR x))) (by
      refine⟨k+1,rfl,by omega,?_,?_,qR.o⟩;·rw[df.o,oP,hx,Option.toList_none,List.append_nil,←hx];exact ZR.o
      ·rw[df.o,oQ,hx,Option.isSome_none,if_neg (by simp),List.append_nil,←hx];exact HUA.o);subst hx;clear f0 f1 f2 f3 f4 f5 f6 f7;go_wp2;go_roundw;case rel=>exact lX.o
     case measure=>simp[intOf];omega
   ·have t1: ¬(k:Int)<m:=by omega
    have HR:=qS (iq w j lo b (.returned (.tuple #[u9,u10,.int .i64 0])) wr) (by have hv:=HV.o;have hu:=HU.o;rw[List.take_of_length_le (by rw[BH.o];omega)]at hv hu;exact HP.o _ _ ⟨u9,u10,rfl,hv,hu,sG.o⟩);clear hbel;go_wp2;go_ret3;exact HR.o
open Go.ChangeShapes Go.WideShapes Go.ChangeAt
theorem own:ownKnob Tryz.prog.godebug=none:=by kernel_rfl
theorem laidOut:laidOutB Tryz.prog=true:=by kernel_rfl
def Ints(w:World)(B:Nat)(A:Option Addr)(n c:Nat)(l:List Int):Prop:=ax w B 1 A n c (uN l)
theorem Ints.len{w:World}{B n c:Nat}{A:Option Addr}{l:List Int}(h:Ints w B A n c l):l.length=n:=by have:=ax.len h;simpa[uN]using this
theorem Ints.at_{w:World}{B n c:Nat}{A:Option Addr}{l:List Int}(h:Ints w B A n c l)(k:Nat)(hk:k<l.length): ∃b off,A=some ⟨b,off,none⟩∧b<B∧w.cell? ⟨b,off+k,none⟩=some (.int .i64 l[k]):=by have hl:=h.len;obtain⟨b,off,e,hb,hc⟩:=ax.cell h (by omega);exact⟨b,off,e,hb,hc k _ (by simp[hk,uN])⟩
theorem Bb{H:Type}{enc:TypeId×Value→H}{W:World}{T E:TypeId}(hT:Tryz.prog.underlying T=some (.slice E))(hE:Tryz.prog.underlying E=some (.int .i64))(hc:Tryz.prog.cellsOf E=1){A:Option Addr}{n c:Nat}{x:DataW H×List MemPlace}(h: ∃fuel,DataW.trod enc Tryz.prog W 0 (fun _=>true) true fuel T (Value.slice A n c).cells.toList=some x): ∃l,Ints W W.heap.size A n c l:=by
 obtain⟨fuel,hf⟩:=h;rcases open_ints hT hE hc hf with⟨hcs,_⟩|⟨x,l,c',zs,hcs,_,hl,hm,hz,_,hcell,hwz⟩;·simp[Value.cells]at hcs;obtain⟨rfl,rfl,rfl⟩:=hcs;exact⟨[],ax.nil _ _ _ _ _ (by unfold maxLen;omega)⟩
 ·simp[Value.cells]at hcs;obtain⟨rfl,rfl,rfl⟩:=hcs;have hz':zs.length=c:=by simpa using hz
  refine⟨zs.take n,⟨by unfold uN;rw[List.length_map,List.length_take];omega,hl,hm,fun h0=>?_⟩⟩;obtain⟨b,off,spot⟩:=x;have hc0:=hcell 0 (by omega);have hspot:spot=none:=by simpa[Addr.add]using World.cell?_spot hc0
  subst hspot;refine⟨b,off,rfl,World.block_lt_of_cell? W ⟨b,off,none⟩ (by simpa[Addr.add]using hc0),fun i u hi=>?_⟩;unfold uN at hi;rw[List.getElem?_map]at hi;have hi':i<n:=by refine Decidable.byContradiction fun hc=>?_;rw[List.getElem?_eq_none (by rw[List.length_take];omega)]at hi;cases hi
  have:=hcell i (by omega);have hadd:(⟨b,off,none⟩:Addr).add i=⟨b,off+i,none⟩:=by unfold Addr.add;split<;>simp_all
  rw[hadd]at this;rw[this];have e:zs.getD i 0=zs[i]'(by omega):=by simp[List.getD,List.getElem?_eq_getElem (show i<zs.length by omega)]
  rw[List.getElem?_take_of_lt hi',List.getElem?_eq_getElem (by omega)]at hi;rw[e];exact hi
def Ev.fit(e:Ev):Prop:=e.src.length≤140737488355328∧e.per.length≤140737488355328∧e.item.length≤140737488355328∧e.text.length≤140737488355328
def Ev.dat{H:Type}(e:Ev):DataW H:=.agg [.lit (.string e.src),.lit (.int .i64 e.num),.lit (.int .i64 e.at_),.lit (.int .i64 e.kind),.lit (.string e.per),.lit (.string e.item),.lit (.int .i64 e.val),.lit (.string e.text)]
theorem Ef:Tryz.prog.cellsOf 28=8:=by kernel_rfl
theorem QC:Tryz.prog.cellsOf 9=1:=by kernel_rfl
theorem QD:Tryz.prog.cellsOf 3=1:=by kernel_rfl
theorem Ns:Tryz.prog.cellsOf 26=1:=by kernel_rfl
instance:Inhabited Ev:=⟨⟨[],0,0,0,[],[],0,[]⟩⟩
theorem Gi{H:Type}{enc:TypeId×Value→H}{W:World}{base fuel:Nat}{sp:Nat→Bool}{held:Bool}{cs:List Value}{d:DataW H}{ps:List MemPlace}(h:DataW.trod enc Tryz.prog W base sp held fuel 28 cs=some (d,ps)): ∃e:Ev,cs=e.cells∧d=e.dat:=by
 obtain⟨xs,n,_,hx,hl,hlen,hf⟩:=DataW.trod_struct Tryz.underlying28 h;rw[Ef]at hl;match cs,hl with
  |[c0,c1,c2,c3,c4,c5,c6,c7],_=>
   match xs,hlen with
    |[x0,x1,x2,x3,x4,x5,x6,x7],_=>
     have h0:=hf 0 _ rfl;have h1:=hf 1 _ rfl;have h2:=hf 2 _ rfl;have h3:=hf 3 _ rfl;have h4:=hf 4 _ rfl;have h5:=hf 5 _ rfl;have h6:=hf 6 _ rfl;have h7:=hf 7 _ rfl;set_option linter.unusedSimpArgs false in
      simp only[QC,QD,Ns,List.drop_succ_cons,List.drop_zero,List.take_succ_cons,List.take_zero,List.getElem?_cons_zero,List.getElem?_cons_succ]at h0 h1 h2 h3 h4 h5 h6 h7;obtain⟨s0,e0,rfl,_⟩:=DataW.trod_string Tryz.underlying9 h0;obtain⟨n1,e1,rfl,_⟩:=DataW.trod_int Tryz.underlying3 h1;obtain⟨n2,e2,rfl,_⟩:=DataW.trod_int Tryz.underlying3 h2;obtain⟨n3,e3,rfl,_⟩:=DataW.trod_int Tryz.underlying26 h3;obtain⟨s4,e4,rfl,_⟩:=DataW.trod_string Tryz.underlying9 h4;obtain⟨s5,e5,rfl,_⟩:=DataW.trod_string Tryz.underlying9 h5;obtain⟨n6,e6,rfl,_⟩:=DataW.trod_int Tryz.underlying3 h6;obtain⟨s7,e7,rfl,_⟩:=DataW.trod_string Tryz.underlying9 h7;injection e0 with e0;injection e1 with e1;injection e2 with e2;injection e3 with e3;injection e4 with e4;injection e5 with e5;injection e6 with e6;injection e7 with e7;subst e0 e1 e2 e3 e4 e5 e6 e7;refine⟨⟨s0.data.toList,n1,n2,n3,s4.data.toList,s5.data.toList,n6,s7.data.toList⟩,?_,?_⟩;·simp[Ev.cells]
      ·injection hx with hx _
theorem nH{H:Type}{P:Program}{e:TypeId}: ∀{ds:List (DataW H)}{d:DataW H},d∈ds→ ∀n∈d.weights P e,n∈DataW.weightsAll P e ds
 |d0::ds,d,hd,n,hn=>by
  simp only[DataW.weightsAll,List.mem_append];rcases List.mem_cons.1 hd with rfl|h;·exact Or.inl hn
  ·exact Or.inr (nH h n hn)
 |[],_,hd,_,_=>by cases hd
theorem Gh{H:Type}(e:Ev):(e.dat (H:=H)).weights Tryz.prog 28=[e.src.length,e.per.length,e.item.length,e.text.length]:=by unfold Ev.dat;rw[DataW.weights,Tryz.underlying28];simp[DataW.weightsEach,DataW.weights]
theorem yf(b o i:Nat):(⟨b,o,none⟩:Addr).add i=⟨b,o+i,none⟩:=by unfold Addr.add;split<;>simp_all
theorem Ee{H:Type}{enc:TypeId×Value→H}{W:World}{A:Option Addr}{n c:Nat}{d:DataW H}{ps:List MemPlace}(h:DataW.Trod enc Tryz.prog W 0 (fun _=>true) true 22 (Value.slice A n c) d ps)(hz: ∀m∈d.weights Tryz.prog 22,m≤reachBytes): ∃es,gH W W.heap.size A n c es∧n≤140737488355328∧ ∀e∈es,e.fit:=by
 obtain⟨fuel,hf⟩:=h;have hr:reachBytes≤140737488355328:=by decide
 rcases Deep.open_slice Tryz.underlying22 hf with⟨hcs,_⟩|⟨a,len,cap,m,fl,D,Pl,hcs,_,hl,hm,hmm,hx,hV⟩;·simp[Value.cells]at hcs;obtain⟨rfl,rfl,rfl⟩:=hcs;exact⟨[],ax.nil _ _ _ _ _ (by unfold maxLen;omega),by omega,fun e he=>by cases he⟩
 ·simp[Value.cells]at hcs;obtain⟨rfl,rfl,rfl⟩:=hcs;have hmc:m=c:=by simpa using hmm
  subst hmc;injection hx with hd _;rw[Ef]at hV;have key: ∀i,i<n→ ∃e:Ev,(∀j,j<8→W.cell? ((a.add (i*8)).add j)=e.cells[j]?)∧D i=e.dat:=fun i hi=>by obtain⟨cs,h1,h2⟩:=hV i (by omega);obtain⟨_,_,h3⟩:=World.cells?_some h1;obtain⟨e,rfl,he⟩:=Gi h2;exact⟨e,h3,he⟩
  obtain⟨f,Ve⟩:=Deep.choose_lt (α:=Ev) (p:=fun i e=>(∀j,j<8→W.cell? ((a.add (i*8)).add j)=e.cells[j]?)∧D i=e.dat) key;have hwt: ∀i,i<n→(f i).fit:=fun i hi=>by have hmem:(f i).dat∈(List.range n).map D:=List.mem_map.2 ⟨i,by simpa using hi,(Ve i hi).2⟩;have hw: ∀k∈(f i).dat.weights (H:=H) Tryz.prog 28,k≤reachBytes:=fun k hk=>hz k (by rw[hd,DataW.weights,Tryz.underlying22];simp only[List.mem_cons,List.mem_append];exact Or.inr (Or.inl (nH hmem k hk)));rw[Gh]at hw;exact⟨Nat.le_trans (hw _ (by simp)) hr,Nat.le_trans (hw _ (by simp)) hr,Nat.le_trans (hw _ (by simp)) hr,Nat.le_trans (hw _ (by simp)) hr⟩
  have hnn:n≤140737488355328:=by
   have:=hz ((((List.range n).map D).length+((List.range (m-n)).map fun j=>D (n+j)).length)*Tryz.prog.bytesOf 28) (by rw[hd,DataW.weights,Tryz.underlying22];exact List.mem_cons_self ..);have hb:Tryz.prog.bytesOf 28=96:=by kernel_rfl
   rw[hb]at this;simp at this;omega
  refine⟨(List.range n).map f,⟨by rw[iI];simp,hl,hm,fun h0=>?_⟩,hnn,fun e he=>?_⟩
  ·obtain⟨b,off,spot⟩:=a;have hc0:=(Ve 0 h0).1 0 (by omega);have hspot:spot=none:=by have:=World.cell?_spot (hc0.trans (show(f 0).cells[0]?=some _ from rfl));simpa[Addr.add]using this
   subst hspot;refine⟨b,off,rfl,World.block_lt_of_cell? W ⟨b,off,none⟩ (u:=.string ⟨(f 0).src.toArray⟩) ?_,fun i u hi=>?_⟩;·simpa[yf]using hc0.trans (show(f 0).cells[0]?=some _ from rfl)
   ·have hil:i<n*8:=by have:=(List.getElem?_eq_some_iff.1 hi).1;rw[iI]at this;simpa using this
    have e1:i=(i/8)*8+i%8:=by omega
    have hq:i/8<((List.range n).map f).length:=by simp;omega
    rw[e1,uQ _ (i/8) (i%8) hq (by omega)]at hi;have hq':i/8<n:=by omega
    have:=(Ve (i/8) hq').1 (i%8) (by omega);rw[yf,yf]at this;have e2:off+i=off+i/8*8+i%8:=by omega
    rw[e2,this];simpa using hi
  ·obtain⟨i,hi,rfl⟩:=List.mem_map.1 he;exact hwt i (by simpa using hi)
def KD:List Int:=List.replicate 128 240++List.replicate 66 241++List.replicate 30 2++[19]++List.replicate 12 3++[35,3,3,52,4,4,4,68]++List.replicate 11 241
def JS:List Int:=[128,191,160,191,128,159,144,191,128,143]++List.replicate 22 0
def Ip(l:List Int):Obj→Obj|.cells _ t frozen=>.cells (l.map (Value.int .u8)).toArray t frozen|o=>o
def TQ:DataW Unit→Value|.lit (.int k z)=>.int k z|_=>.bool false
def QG:DataW Unit→List Value|.agg l=>l.map TQ|_=>[]
def AY(d:DataW Unit):Obj→Obj|.cells _ t frozen=>.cells (QG d).toArray t frozen|o=>o
def MN(k:Nat):Obj→Obj|.cells _ t frozen=>.cells #[.iface 320 (.pointer (some ⟨k,0,none⟩))] t frozen|o=>o
abbrev Ta:ByteArray:=⟨#[118,97,108,117,101,32,111,117,116,32,111,102,32,114,97,110,103,101]⟩
abbrev Px:ByteArray:=⟨#[105,110,118,97,108,105,100,32,115,121,110,116,97,120]⟩
noncomputable def VF:Nat:=(World.holding Tryz.prog default ⟨#[],#[],[]⟩).heap.size
noncomputable def tq(os:Os):World:=let w0:=World.holding Tryz.prog os ⟨#[.cells #[.string Ta] 322,.cells #[.string Px] 322],#[],[]⟩;{w0 with heap:=((((((w0.heap.modify 4 (Ip KD)).modify 5 (Ip JS)).modify 6 (AY Rows.laid_math_bits_deBruijn32tab)).modify 7 (AY Rows.laid_math_bits_deBruijn64tab)).modify 3 (AY Rows.laid_internal_strconv_uint64pow10)).modify 2 (MN VF)).modify 1 (MN (VF+1))}
theorem star7: "*"++ "errors.errorString"= "*errors.errorString":=by decide
theorem row7(u:TypeId)(h:Tryz.prog.typeName? 3 u=some "*errors.errorString"):u=320:=typeName_ptr_named (nm:= "errors.errorString") (by rw[star7];kernel_rfl) (by kernel_rfl) (by decide) u (by rw[star7];exact h)
theorem tab7{W:World}{r:List (String×DataW Unit)}(h:laidMet Tryz.prog (("internal/strconv.uint64pow10",Rows.laid_internal_strconv_uint64pow10)::r) W):Lib.TabBelow Tryz.prog W.heap.size W "internal/strconv.uint64pow10" .u64 Lib.pow10Tab:=Lib.tabBelow_of_tabIs (Lib.tabIs_of_head (g:=3) (by kernel_rfl) (by kernel_rfl) Tryz.underlying314 Tryz.underlying254 (by kernel_rfl) (by kernel_rfl) h)
theorem Wx{W:World}{r:List (String×DataW Unit)}(h:laidMet Tryz.prog (("strconv.ErrRange",Rows.laid_strconv_ErrRange)::r) W): ∃v,W.cell? ⟨2,0,none⟩=some v∧(v=.nilIface∨ ∃t p,v=.iface t p):=by obtain⟨a,s,hv,_⟩:=laid_sentinel (g:=2) (ts:=9) (te:=322) h (by kernel_rfl) (by kernel_rfl) Tryz.underlying195 row7 Tryz.underlying320 Tryz.underlying322 rfl rfl Tryz.underlying9 (by kernel_rfl) (by kernel_rfl);have h0:=World.var?_cell (g:=2) (by kernel_rfl) hv 0;exact⟨_,by simpa using h0,.inr ⟨_,_,rfl⟩⟩
theorem Ww{W:World}{r:List (String×DataW Unit)}(h:laidMet Tryz.prog (("strconv.ErrSyntax",Rows.laid_strconv_ErrSyntax)::r) W): ∃v,W.cell? ⟨1,0,none⟩=some v∧(v=.nilIface∨ ∃t p,v=.iface t p):=by obtain⟨a,s,hv,_⟩:=laid_sentinel (g:=1) (ts:=9) (te:=322) h (by kernel_rfl) (by kernel_rfl) Tryz.underlying195 row7 Tryz.underlying320 Tryz.underlying322 rfl rfl Tryz.underlying9 (by kernel_rfl) (by kernel_rfl);have h0:=World.var?_cell (g:=1) (by kernel_rfl) hv 0;exact⟨_,by simpa using h0,.inr ⟨_,_,rfl⟩⟩
abbrev list7:List (String×DataW Unit):=[("math/bits.deBruijn32tab",Rows.laid_math_bits_deBruijn32tab),("math/bits.deBruijn64tab",Rows.laid_math_bits_deBruijn64tab),("internal/strconv.uint64pow10",Rows.laid_internal_strconv_uint64pow10),("unicode/utf8.acceptRanges",Rows.laid_unicode_utf8_acceptRanges),("strconv.ErrRange",Rows.laid_strconv_ErrRange),("strconv.ErrSyntax",Rows.laid_strconv_ErrSyntax),("unicode/utf8.first",Rows.laid_unicode_utf8_first)]
theorem laid7{W:World}(h:laidMetH Tryz.prog list7 W):iO W∧Lib.TabBelow Tryz.prog W.heap.size W "internal/strconv.uint64pow10" .u64 Lib.pow10Tab:=by
 have h':laidMet Tryz.prog list7 W:=by
  have e:list7.filter (fun x=>x.2.handleName?.isSome)=[]:=by kernel_rfl
  unfold laidMetH at h;rw[e]at h;exact h
 have h3:=laidMet.tail (laidMet.tail h');have h5:=laidMet.tail (laidMet.tail h3);exact⟨⟨Ww (laidMet.tail h5),Wx h5⟩,tab7 h3⟩
end Go.Proofs.YtladegonienapaaGreatDoor
