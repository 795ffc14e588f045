/-
  Layer 5: Read.
-/
import Derived.Test.YtajihpcdplpcdaaGreatDoorTJl5
set_option maxRecDepth 100000
set_option maxHeartbeats 16000000
namespace Go.Proofs.YtajihpcdplpcdaaGreatDoor
open Go.RowKit Go.Maps Go.Sort
theorem jint_info:(Tryz.prog.info? 3).map (fun i=>(i.zero,i.size,i.bytes))=some (some (.int .i64 0),1,8):=by kernel_rfl
def rdAt:Int→List (Option Ev)→List Int|_,[]=>[]|f,none::l=>rdAt (f+1) l|f,some _::l=>f::rdAt (f+1) l
def rdEv(l:List (Option Ev)):List Ev:=l.filterMap id
theorem rdAt_snoc(x:Option Ev): ∀(l:List (Option Ev))(f:Int),rdAt f (l++[x])=rdAt f l++(if x.isSome then[f+l.length]else[])
 |[],f=>by cases x<;>simp[rdAt]
 |none::l,f=>by
  simp only[List.cons_append,rdAt,rdAt_snoc x l (f+1),List.length_cons];congr 1;split;·congr 1;omega
  ·rfl
 |some e::l,f=>by
  simp only[List.cons_append,rdAt,rdAt_snoc x l (f+1),List.length_cons];congr 2;split;·congr 1;omega
  ·rfl
theorem rdAt_len: ∀(l:List (Option Ev))(f:Int),(rdAt f l).length=(rdEv l).length|[],_=>rfl|none::l,f=>by simp only[rdAt,rdAt_len l];rfl|some e::l,f=>by simp only[rdAt,List.length_cons,rdAt_len l];rfl
theorem rdEv_snoc(l:List (Option Ev))(x:Option Ev):rdEv (l++[x])=rdEv l++x.toList:=by unfold rdEv;rw[List.filterMap_append];cases x<;>rfl
theorem rdEv_le(l:List (Option Ev)):(rdEv l).length≤l.length:=List.length_filterMap_le _ _
def intVs(l:List Int):List Value:=l.map (Value.int .i64)
def OwnI(w:World)(base:Nat)(v:Value)(l:List Int):Prop:=w.ownsRow base 3 1 v l.length (intVs l)
theorem Cel.mid{w:World}{B size n c:Nat}{A:Option Addr}{xs:List Value}(h:Cel w B size A n c xs)(lo m:Nat)(hm:lo+m≤n):Cel w B size (if c=lo then A else A.map (·.add (lo*size))) m (c-lo) ((xs.drop (lo*size)).take (m*size)):=(h.from_ lo (by omega)).upto m (by omega)
theorem entCells_dropN: ∀(l:List (Option Ev))(m:Nat),(entCells l).drop (m*9)=entCells (l.drop m)|[],m=>by simp[entCells]|x::l,0=>by simp|x::l,m+1=>by have h9:=entC_length x;have e1:entCells (x::l)=entC x++entCells l:=rfl;rw[e1,List.drop_succ_cons,←entCells_dropN l m,show(m+1)*9=(entC x).length+m*9 by omega,List.drop_append];simp
theorem entCells_takeN: ∀(l:List (Option Ev))(m:Nat),(entCells l).take (m*9)=entCells (l.take m)|[],m=>by simp[entCells]|x::l,0=>by simp[entCells]|x::l,m+1=>by have h9:=entC_length x;have e1:entCells (x::l)=entC x++entCells l:=rfl;have e2:entCells ((x::l).take (m+1))=entC x++entCells (l.take m):=rfl;rw[e1,e2,←entCells_takeN l m,show(m+1)*9=(entC x).length+m*9 by omega,List.take_append,List.take_of_length_le (by omega),Nat.add_sub_cancel_left]
def Ents(w:World)(B:Nat)(A:Option Addr)(n c:Nat)(l:List (Option Ev)):Prop:=Cel w B 9 A n c (entCells l)
theorem Ents.len{w:World}{B n c:Nat}{A:Option Addr}{l:List (Option Ev)}(h:Ents w B A n c l):l.length=n:=by have:=Cel.len h;rw[entCells_length]at this;omega
abbrev EntAt(w:World)(b o:Nat)(x:Option Ev):Prop:=w.cell? ⟨b,o,none⟩=some (.string ⟨(entE x).src.toArray⟩)∧w.cell? ⟨b,o+1,none⟩=some (.int .i64 (entE x).num)∧w.cell? ⟨b,o+2,none⟩=some (.int .i64 (entE x).at_)∧w.cell? ⟨b,o+3,none⟩=some (.int .i64 (entE x).kind)∧w.cell? ⟨b,o+4,none⟩=some (.string ⟨(entE x).per.toArray⟩)∧w.cell? ⟨b,o+5,none⟩=some (.string ⟨(entE x).item.toArray⟩)∧w.cell? ⟨b,o+6,none⟩=some (.int .i64 (entE x).val)∧w.cell? ⟨b,o+7,none⟩=some (.string ⟨(entE x).text.toArray⟩)∧w.cell? ⟨b,o+8,none⟩=some (.bool x.isNone)
theorem Ents.at_{w:World}{B n c:Nat}{A:Option Addr}{l:List (Option Ev)}(h:Ents w B A n c l)(k:Nat)(hk:k<l.length): ∃b off,A=some ⟨b,off,none⟩∧b<B∧EntAt w b (off+k*9) l[k]:=by
 have hl:=h.len;obtain⟨b,off,e,hb,hc⟩:=Cel.cell h (by omega);have key: ∀j u,j<9→(entC l[k])[j]?=some u→w.cell? ⟨b,off+k*9+j,none⟩=some u:=fun j u hj hu=>by rw[Nat.add_assoc];exact hc _ u ((entCells_get l k j hk hj).trans hu)
 rw[entC_eq]at key;exact⟨b,off,e,hb,key 0 _ (by omega) rfl,key 1 _ (by omega) rfl,key 2 _ (by omega) rfl,key 3 _ (by omega) rfl,key 4 _ (by omega) rfl,key 5 _ (by omega) rfl,key 6 _ (by omega) rfl,key 7 _ (by omega) rfl,key 8 _ (by omega) rfl⟩
theorem EntAt.below{w w':World}{b o B:Nat}{x:Option Ev}(h:EntAt w b o x)(hb:Below B w w')(hB:b<B):EntAt w' b o x:=by obtain⟨h0,h1,h2,h3,h4,h5,h6,h7,h8⟩:=h;have key: ∀(o:Nat)u,w.cell? ⟨b,o,none⟩=some u→w'.cell? ⟨b,o,none⟩=some u:=fun o u hu=>(hb.cell (p:=⟨b,o,none⟩) hB).trans hu;exact⟨key _ _ h0,key _ _ h1,key _ _ h2,key _ _ h3,key _ _ h4,key _ _ h5,key _ _ h6,key _ _ h7,key _ _ h8⟩
def Jl.rdBad(j:Jl)(a b:Int):Bool:=decide (a<0)||decide ((j.es.length:Int)<a)||decide (b<0)
def Jl.rdSeg(j:Jl)(a b:Int):List (Option Ev):=(j.es.drop a.toNat).take (min b (j.es.length-a)).toNat
def JRdPost(w:World)(evs:List Ev)(ats:List Int)(er:Int)(e:Ending)(w':World):Prop:= ∃v u,e=.returned (.tuple #[v,u,.int .i64 er])∧OwnE w' w.heap.size v evs∧OwnI w' w.heap.size u ats∧Below w.heap.size w w'
def JRdRel(w:World)(f:Int)(l:List (Option Ev))(v u i:Value)(wr:World):Prop:= ∃k:Nat,i=.int .i64 k∧k≤l.length∧OwnE wr w.heap.size v (rdEv (l.take k))∧OwnI wr w.heap.size u (rdAt f (l.take k))∧Below w.heap.size w wr
def JReadPost(w:World)(j:Jl)(a b:Int)(e:Ending)(w':World):Prop:=JRdPost w (if j.rdBad a b then[]else rdEv (j.rdSeg a b)) (if j.rdBad a b then[]else rdAt a (j.rdSeg a b)) (if j.rdBad a b then 9 else 0) e w'
theorem jlread_any(w:World)(G F:Nat→Prop)(bj bd:Nat)(j:Jl)(h:JlIn w G F bj bd j)(a b:Int):Calls Tryz.prog 45 #[.pointer (some ⟨bj,0,none⟩),.int .i64 a,.int .i64 b] w (JReadPost w j a b):=by
 obtain⟨ho,v,hj⟩:=h;have c4:=hj.cells.2.2.2.2.1;obtain⟨A,c,hv⟩:=ownsRow_form hj.own;have hnum:=ho.num;have HO:=qH (show Ents w w.heap.size A j.es.length c j.es from by have:=hj.own;rw[hv]at this;exact Cel.of_own this);rw[hv]at c4;have HB:=qH (show j.rdBad a b=(decide (a<0)||decide ((j.es.length:Int)<a)||decide (b<0))from rfl);clear hj ho hv;have HRB:=qH (show j.rdBad a b=true→JReadPost w j a b (.returned (.tuple #[.slice none 0 0,.slice none 0 0,.int .i64 9])) w from fun h=>by unfold JReadPost;rw[if_pos h,if_pos h,if_pos h];exact⟨_,_,rfl,World.ownsRow_nil _ _ _ _,World.ownsRow_nil _ _ _ _,Below.refl _ _⟩);generalize hn:j.es.length=n at*;have HN:=qH hn;by_cases h1:a<0;·have HR:=qH (HRB.out (by rw[HB.out,decide_eq_true h1];rfl));go_enter Tryz.func45,Tryz.ntmps45;go_wp2;go_ret3;exact HR.out
 by_cases h2:(n:Int)<a;·have HR:=qH (HRB.out (by rw[HB.out,decide_eq_true h2];simp));go_enter Tryz.func45,Tryz.ntmps45;go_wp2;go_ret3;exact HR.out
 by_cases h3:b<0;·have HR:=qH (HRB.out (by rw[HB.out,decide_eq_true h3];simp));go_enter Tryz.func45,Tryz.ntmps45;go_wp2;go_ret3;exact HR.out
 have hbad:j.rdBad a b=false:=by rw[HB.out,decide_eq_false h1,decide_eq_false h2,decide_eq_false h3];rfl
 obtain⟨lo,rfl⟩:=Int.eq_ofNat_of_zero_le (show 0≤a by omega);obtain⟨m,hm⟩: ∃m:Nat,(m:Int)=min b ((n:Int)-lo):=⟨(min b ((n:Int)-lo)).toNat,by omega⟩;have hseg:j.rdSeg lo b=(j.es.drop lo).take m:=by unfold Jl.rdSeg;rw[hn,←hm];simp
 have HP:=qH (show∀e w',JRdPost w (rdEv ((j.es.drop lo).take m)) (rdAt lo ((j.es.drop lo).take m)) 0 e w'→JReadPost w j lo b e w' from fun e w' h=>by unfold JReadPost;rw[hbad,hseg];exact h);have hlm:lo+m≤n:=by omega
 have HSL:=qH (show((j.es.drop lo).take m).length=m by simp[hn];omega);have HC:=qH (show Ents w w.heap.size (if c=lo then A else A.map (·.add (lo*9))) m (c-lo) ((j.es.drop lo).take m)from by have:=Cel.mid HO.out lo m hlm;unfold Ents;rw[←entCells_takeN,←entCells_dropN];exact this);have hcap:n≤c:=Cel.cap HO.out;generalize(j.es.drop lo).take m=seg at*;clear hbad hseg hn HRB HB HO;have hm':=hm.symm;clear hm;go_enter Tryz.func45,Tryz.ntmps45;obtain⟨A',c',hAc⟩: ∃A' c',(if c=lo then A else A.map (·.add (lo*9)))=A'∧c-lo=c':=⟨_,_,rfl,rfl⟩;rw[hAc.1,hAc.2]at HC;have HST:=qH (show JRdRel w lo seg (.slice none 0 0) (.slice none 0 0) (.int .i64 ((0:Nat):Int)) w from⟨0,rfl,Nat.zero_le _,World.ownsRow_nil _ _ _ _,World.ownsRow_nil _ _ _ _,Below.refl _ _⟩);by_cases hcl:c=lo;case' pos=>
  rw[if_pos hcl]at hAc;have hc0:c-lo=0:=by omega
  have HAC:=qH hAc;clear hAc;go_wp2;rw[show Value.slice A m 0=.slice A' m c' by rw[←HAC.out.1,←HAC.out.2,hc0]]
 case' neg=>rw[if_neg hcl]at hAc;have HAC:=qH hAc;clear hAc;go_wp2;rw[show Value.slice (Option.map (fun x=>x.add (lo*9)) A) m (c-lo)=.slice A' m c' by rw[←HAC.out.1,←HAC.out.2]]
 all_goals
  clear HAC c4 hm' hcl hcap;go_loopw[9,10,47](fun v u i wr=>JRdRel w lo seg v u i wr)(fun _ _ i _=>m-(intOf i).toNat);case atStart=>exact HST.out
  case round=>
   obtain⟨k,rfl,hk,hov,hou,hbel⟩:=hrel;have HV:=qH hov;have HU:=qH hou;have HBL:=qH hbel;clear hov hou;have hkL:k≤m:=by rw[←HSL.out];exact hk
   by_cases hkn:k<m
   ·have hkl:k<seg.length:=by rw[HSL.out];exact hkn
    obtain⟨b',off,hAe,hb,hd⟩:=HC.out.at_ k hkl;obtain⟨e0,e1,e2,e3,e4,e5,e6,e7,e8⟩:=hd.below hbel hb;have HTK:=qH (show seg.take (k+1)=seg.take k++[seg[k]]by rw[List.take_add_one,List.getElem?_eq_getElem hkl,Option.toList_some]);have hbA:Below w.heap.size w (wr.alloc (entObj seg[k])):=hbel.alloc hbel.size _;have HBA:=qH hbA;have hlk:(seg.take k).length=k:=by rw[List.length_take];omega
    have hle:=rdEv_le (seg.take k);have HVA:=qH (World.ownsRow.alloc HV.out (entObj seg[k]));have HUA:=qH (World.ownsRow.alloc HU.out (entObj seg[k]));have hsA:(wr.alloc (entObj seg[k])).heap.size=wr.heap.size+1:=by simp
    have hin:=EntIn.new wr seg[k];subst hAe;have t1:(k:Int)<m:=by omega
    generalize seg[k]=x at*;clear hd hb hbA;obtain⟨f0,f1,f2,f3,f4,f5,f6,f7,f8⟩:=hin;cases hxn:x.isNone
    ·obtain⟨e,rfl⟩: ∃e,x=some e:=by cases x with|none=>simp at hxn|some e=>exact⟨e,rfl⟩
     simp only[entE,Option.getD_some]at e0 e1 e2 e3 e4 e5 e6 e7 f0 f1 f2 f3 f4 f5 f6 f7;have HFIN:=qH (show∀v' u' w3,OwnE w3 w.heap.size v' (rdEv (seg.take k)++[e])→OwnI w3 w.heap.size u' (rdAt lo (seg.take k)++[(lo:Int)+k])→Below w.heap.size w w3→JRdRel w lo seg v' u' (.int .i64 ((k+1:Nat):Int)) w3 from fun v' u' w3 h1 h2 h3=>by
      refine⟨k+1,rfl,by omega,?_,?_,h3⟩;·rw[HTK.out,rdEv_snoc];exact h1
      ·rw[HTK.out,rdAt_snoc,Option.isSome_some,if_pos rfl,hlk];exact h2);obtain⟨i0,hi,hz0,hz1,hz2⟩:=info_parts ev_info;have HI:=qH hi;have HZ0:=qH hz0;have HZ1:=qH hz1;have HZ2:=qH hz2;clear hi hz0 hz1 hz2 HTK;obtain⟨j0,hi,hz0,hz1,hz2⟩:=info_parts jint_info;have KI:=qH hi;have KZ0:=qH hz0;have KZ1:=qH hz1;have KZ2:=qH hz2;clear hi hz0 hz1 hz2;have hlu:=rdAt_len (seg.take k) lo;simp only[Option.isNone_some]at e8 f8;go_wp2_with(at_builtin;refine wpList_app (P:=Tryz.prog) rfl (.tmp 55) (.tmp 58) 23 rfl 60 i0 _ 8 96 Tryz.underlying23 HI.out HZ0.out HZ1.out HZ2.out rfl (by decide) w.heap.size _ (rdEv (seg.take k)).length (evCells (rdEv (seg.take k))) rfl ?c1 (wr.heap.size+1+1) _ _ _ e.cells rfl ?c2 (cells_one e) ?c4 ?c5 ?c6 ?_);case c1=>exact World.ownsRow.alloc HVA.out _
     case c2=>have:=Cel.new (size:=8) (n:=1) (wr.alloc (entObj (some e))) #[.string ⟨e.src.toArray⟩,.int .i64 e.num,.int .i64 e.at_,.int .i64 e.kind,.string ⟨e.per.toArray⟩,.string ⟨e.item.toArray⟩,.int .i64 e.val,.string ⟨e.text.toArray⟩] 60 (by unfold maxLen;omega) rfl;rw[hsA]at this;exact this
     case c4=>unfold maxLen;omega
     case c5=>omega
     case c6=>have:=HBA.out.size;first|omega|(simp;omega)
     intro v' w2 hown2 hg2 _;have HV2:=qH (show OwnE w2 w.heap.size v' (rdEv (seg.take k)++[e])from by unfold OwnE;rw[evCells_one,List.length_append];exact hown2);have hbl2:Below w.heap.size w w2:=Below.grown (HBA.out.alloc HBA.out.size _) hg2 (by have:=HBA.out.size;first|omega|(simp;omega)) (fun k' hk'=>(World.ownsRow.lt HVA.out k' hk').1);have HB2:=qH hbl2;have HU2:=qH (show OwnI w2 w.heap.size u10 (rdAt lo (seg.take k))from World.ownsRow.kept (World.ownsRow.alloc HUA.out _) hg2 (ownsRow_apart HU.out HV.out (by decide)));have hsz2:wr.heap.size+2≤w2.heap.size:=by have:=hg2.size;simp at this;omega
     clear hown2 hg2 hbl2 f0 f1 f2 f3 f4 f5 f6 f7 f8 e0 e1 e2 e3 e4 e5 e6 e7 e8;go_wp2_with(at_builtin;refine wpList_app (P:=Tryz.prog) rfl (.tmp 60) (.tmp 64) 113 rfl 3 j0 _ 1 8 Tryz.underlying113 KI.out KZ0.out KZ1.out KZ2.out rfl (by decide) w.heap.size _ (rdAt lo (seg.take k)).length (intVs (rdAt lo (seg.take k))) rfl ?c1 (w2.heap.size+1) _ _ _ [.int .i64 ((lo:Int)+k)] rfl ?c2 ?c3 ?c4 ?c5 ?c6 ?_);case c1=>exact World.ownsRow.alloc HU2.out _
     case c2=>exact Cel.new (size:=1) (n:=1) w2 #[.int .i64 ((lo:Int)+k)] 3 (by unfold maxLen;omega) rfl
     case c3=>intro u hu;simp at hu;subst hu;rfl
     case c4=>unfold maxLen;omega
     case c5=>omega
     case c6=>have:=HB2.out.size;first|omega|(simp;omega)
     intro u' w3 hown3 hg3 _;have HU3:=qH (show OwnI w3 w.heap.size u' (rdAt lo (seg.take k)++[(lo:Int)+k])from by unfold OwnI intVs;rw[List.map_append,List.length_append,hlu];exact hown3);have HV3:=qH (show OwnE w3 w.heap.size v' (rdEv (seg.take k)++[e])from World.ownsRow.kept (World.ownsRow.alloc HV2.out _) hg3 (ownsRow_apart HV2.out HU2.out (by decide)));have HB3:=qH (show Below w.heap.size w w3 from Below.grown (HB2.out.alloc HB2.out.size _) hg3 (by have:=HB2.out.size;first|omega|(simp;omega)) (fun k' hk'=>(World.ownsRow.lt HU2.out k' hk').1));have HRL:=qH (HFIN.out v' u' w3 HV3.out HU3.out HB3.out);clear hown3 hg3;go_wp2;go_roundw;case rel=>exact HRL.out
     case measure=>simp[intOf];omega
    ·have hx:x=none:=by cases x with|none=>rfl|some e=>simp at hxn
     rw[hxn]at e8 f8;have HRL:=qH (show JRdRel w lo seg u9 u10 (.int .i64 ((k+1:Nat):Int)) (wr.alloc (entObj x))from by
      refine⟨k+1,rfl,by omega,?_,?_,HBA.out⟩;·rw[HTK.out,rdEv_snoc,hx,Option.toList_none,List.append_nil,←hx];exact HVA.out
      ·rw[HTK.out,rdAt_snoc,hx,Option.isSome_none,if_neg (by simp),List.append_nil,←hx];exact HUA.out);subst hx;clear f0 f1 f2 f3 f4 f5 f6 f7;go_wp2;go_roundw;case rel=>exact HRL.out
     case measure=>simp[intOf];omega
   ·have t1: ¬(k:Int)<m:=by omega
    have HR:=qH (show JReadPost w j lo b (.returned (.tuple #[u9,u10,.int .i64 0])) wr from by have hv:=HV.out;have hu:=HU.out;rw[List.take_of_length_le (by rw[HSL.out];omega)]at hv hu;exact HP.out _ _ ⟨u9,u10,rfl,hv,hu,HBL.out⟩);clear hbel;go_wp2;go_ret3;exact HR.out
end Go.Proofs.YtajihpcdplpcdaaGreatDoor
