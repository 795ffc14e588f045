/-
  A row of bytes that goes on: numbers and texts put behind it.
-/
import Derived.Test.YtcmmclliabhnjaaGreatDoorWHadPlain
import Derived.Test.YtcmmclliabhnjaaGreatDoorWSets
import Derived.Test.YtcmmclliabhnjaaGreatDoorWMapL
import Derived.Lib.AppendStr
set_option maxRecDepth 100000
set_option maxHeartbeats 16000000
namespace Go.Proofs.YtcmmclliabhnjaaGreatDoor
open Go.RowKit Go.Maps Go.Sort
def upto(a:Int)(k:Nat):List Int:=(List.range k).map fun(i:Nat)=>a+i
def nums(rs:Rg):List Int:=rs.flatMap fun r=>upto r.1 (r.2-r.1).toNat
theorem upto_mem{a:Int}{k:Nat}{n:Int}:n∈upto a k↔a≤n∧n<a+k:=by
 unfold upto;rw[List.mem_map];constructor;·rintro⟨i,hi,rfl⟩;have:=List.mem_range.1 hi;omega
 ·rintro⟨h1,h2⟩;exact⟨(n-a).toNat,List.mem_range.2 (by omega),by omega⟩
theorem upto_up(a:Int)(k:Nat):(upto a k).Pairwise (·< ·):=by unfold upto;rw[List.pairwise_map];exact List.pairwise_lt_range.imp fun h=>by omega
theorem nums_mem{rs:Rg}(h:RgOk rs)(n:Int):n∈nums rs↔hasR rs n=true:=by
 unfold nums hasR;rw[List.mem_flatMap,List.any_eq_true];constructor;·rintro⟨r,hr,hn⟩;have:=upto_mem.1 hn;have:=h.each r hr;exact⟨r,hr,by simp;omega⟩
 ·rintro⟨r,hr,hn⟩;simp only[Bool.and_eq_true,decide_eq_true_eq]at hn;have:=h.each r hr;exact⟨r,hr,upto_mem.2 (by omega)⟩
theorem nums_up{rs:Rg}(h:RgOk rs):(nums rs).Pairwise (·< ·):=by obtain⟨hu,he⟩:=h;unfold nums;induction rs with|nil=>exact List.Pairwise.nil|cons r rs ih=>obtain⟨h1,h2⟩:=List.pairwise_cons.1 hu;rw[List.flatMap_cons];refine List.pairwise_append.2 ⟨upto_up _ _,ih h2 (fun q hq=>he q (by simp[hq])),fun a ha b hb=>?_⟩;obtain⟨q,hq,hb⟩:=List.mem_flatMap.1 hb;have:=upto_mem.1 ha;have:=upto_mem.1 hb;have:=h1 q hq;have:=he r (by simp);omega
theorem up_unique{l l':List Int}(h:l.Pairwise (·< ·))(h':l'.Pairwise (·< ·))(hm: ∀n,n∈l↔n∈l'):l=l':=by
 have n1:l.Nodup:=h.imp fun h=>by omega
 have n2:l'.Nodup:=h'.imp fun h=>by omega
 exact List.Perm.eq_of_pairwise (fun a b _ _ h1 h2=>by omega) h h' ((List.perm_ext_iff_of_nodup n1 n2).2 hm)
def joinN(out:Rg)(n:Int):Rg:=match out.getLast? with|some r=>if r.2=n then out.dropLast++[(r.1,n+1)]else out++[(n,n+1)]|none=>[(n,n+1)]
def rgs(l:List Int):Rg:=l.foldl joinN []
theorem rgs_upto(out:Rg)(a:Int)(k:Nat):(upto a (k+1)).foldl joinN out=(match out.getLast? with|some r=>if r.2=a then out.dropLast++[(r.1,a+k+1)]else out++[(a,a+k+1)]|none=>[(a,a+k+1)]):=by
 induction k with
  |zero=>unfold upto joinN;simp
  |succ k ih=>
   have e:upto a (k+1+1)=upto a (k+1)++[a+(k+1:Nat)]:=by unfold upto;rw[List.range_succ,List.map_append];rfl
   rw[e,List.foldl_append,ih];simp only[List.foldl_cons,List.foldl_nil];cases hl:out.getLast? with|none=>simp only[joinN];simp;omega|some r=>simp only;split<;>(simp only[joinN];simp;omega)
theorem rgs_nums: ∀(rs out:Rg),RgOk (out++rs)→(nums rs).foldl joinN out=out++rs
 |[],out,_=>by simp[nums]
 |r::rs,out,h=>by
  have hr:=h.each r (by simp);obtain⟨k,hk⟩: ∃k:Nat,(r.2-r.1).toNat=k+1:=⟨(r.2-r.1).toNat-1,by omega⟩;have e:nums (r::rs)=upto r.1 (k+1)++nums rs:=by unfold nums;rw[List.flatMap_cons,hk]
  rw[e,List.foldl_append,rgs_upto];have e2:(match out.getLast? with|some q=>if q.2=r.1 then out.dropLast++[(q.1,r.1+k+1)]else out++[(r.1,r.1+k+1)]|none=>[(r.1,r.1+k+1)])=out++[r]:=by
   have hr2:(r.1,r.1+(k:Int)+1)=r:=by
    apply Prod.ext;·rfl
    ·show r.1+(k:Int)+1=r.2;omega
   cases hl:out.getLast? with|none=>have:out=[]:=List.getLast?_eq_none_iff.1 hl;subst this;simp only[List.nil_append];rw[hr2]|some q=>have hq:q∈out:=List.mem_of_getLast? hl;have:=(List.pairwise_append.1 h.up).2.2 q hq r (by simp);simp only;rw[if_neg (by omega),hr2]
  rw[e2];have h':RgOk (out++[r]++rs):=by simpa using h
  rw[rgs_nums rs (out++[r]) h'];simp
theorem rgs_eq{rs:Rg}(h:RgOk rs):rgs (nums rs)=rs:=rgs_nums rs [] h
def numB(n:Nat):List UInt8:=if n<128 then[UInt8.ofNat n]else UInt8.ofNat (n%128+128)::numB (n/128)termination_by n decreasing_by omega
theorem numB_lo{n:Nat}(h:n<128):numB n=[UInt8.ofNat n]:=by rw[numB,if_pos h]
theorem numB_hi{n:Nat}(h: ¬n<128):numB n=UInt8.ofNat (n%128+128)::numB (n/128):=by rw[numB,if_neg h]
theorem numB_short{n:Nat}(h:n<72057594037927936):(numB n).length≤8:=by
 have key: ∀k n,n<128^(k+1)→(numB n).length≤k+1:=fun k=>by
  induction k with
   |zero=>intro n h;rw[numB_lo (by simpa using h)];simp
   |succ k ih=>
    intro n h;by_cases h1:n<128;·rw[numB_lo h1];simp
    ·rw[numB_hi h1];have:=ih (n/128) (by rw[Nat.div_lt_iff_lt_mul (by omega)];rw[Nat.pow_succ]at h;exact h);simp;omega
 exact key 7 n (by simpa using h)
def encR:Int→Rg→List UInt8|_,[]=>[]|e,r::rs=>numB (r.1-e).toNat++numB (r.2-r.1).toNat++encR r.2 rs
def endR:Int→Rg→Int|e,[]=>e|_,r::rs=>endR r.2 rs
theorem encR_snoc(r:Int×Int): ∀(e:Int)(rs:Rg),encR e (rs++[r])=encR e rs++(numB (r.1-endR e rs).toNat++numB (r.2-r.1).toNat)|e,[]=>by simp[encR,endR]|e,q::rs=>by simp only[List.cons_append,encR,endR,encR_snoc r q.2 rs,List.append_assoc]
theorem endR_snoc(r:Int×Int): ∀(e:Int)(rs:Rg),endR e (rs++[r])=r.2|e,[]=>rfl|e,q::rs=>by simp only[List.cons_append,endR];exact endR_snoc r q.2 rs
def encS(p:List UInt8×Rg):List UInt8:=UInt8.ofNat p.1.length::(p.1++numB p.2.length++encR 1 p.2)
def encH(m:Had):List UInt8:=numB m.length++m.flatMap encS
theorem encR_len(rs:Rg)(h: ∀r∈rs,1≤r.1∧r.1<r.2∧r.2≤1099511627777): ∀e:Int,1≤e→(encR e rs).length≤16*rs.length:=by induction rs with|nil=>intro e _;simp[encR]|cons r rs ih=>intro e he;have hr:=h r (by simp);have:=ih (fun q hq=>h q (by simp[hq])) r.2 (by omega);have h1:=numB_short (n:=(r.1-e).toNat) (by omega);have h2:=numB_short (n:=(r.2-r.1).toNat) (by omega);simp only[encR,List.length_append,List.length_cons];omega
def joinU(out:Rg)(r:Int×Int):Rg:=match out.getLast? with|some l=>if r.1≤l.2 then out.dropLast++[(l.1,max l.2 r.2)]else out++[r]|none=>[r]
def RgEach(l:Rg):Prop:= ∀r∈l,1≤r.1∧r.1<r.2∧r.2≤1099511627777
theorem hasR_append(a b:Rg)(n:Int):hasR (a++b) n=(hasR a n||hasR b n):=by unfold hasR;rw[List.any_append]
theorem hasR_one(r:Int×Int)(n:Int):hasR [r] n=(decide (r.1≤n)&&decide (n<r.2)):=by simp[hasR]
theorem joinU_nil(r:Int×Int):joinU [] r=[r]:=rfl
theorem joinU_snoc(i:Rg)(l r:Int×Int):joinU (i++[l]) r=if r.1≤l.2 then i++[(l.1,max l.2 r.2)]else i++[l]++[r]:=by unfold joinU;rw[List.getLast?_append,List.getLast?_singleton,Option.some_or];simp
theorem joinU_ok{out:Rg}{r:Int×Int}(h:RgOk out)(hr:1≤r.1∧r.1<r.2∧r.2≤1099511627777)(hl: ∀l,out.getLast?=some l→l.1≤r.1):RgOk (joinU out r)∧(∀n,hasR (joinU out r) n=(hasR out n||hasR [r] n))∧ ∀l,(joinU out r).getLast?=some l→l.1≤r.1:=by
 rcases List.eq_nil_or_concat out with rfl|⟨i,l,rfl⟩;·rw[joinU_nil];refine⟨⟨by simp,fun q hq=>by rw[List.mem_singleton]at hq;rw[hq];exact hr⟩,fun n=>by simp[hasR],fun l hl=>?_⟩;simp at hl;rw[←hl];omega
 ·rw[List.concat_eq_append]at*;have h1:=hl l (by simp);obtain⟨u1,u2,u3⟩:=List.pairwise_append.1 h.up;have hle:=h.each l (by simp);rw[joinU_snoc];by_cases hc:r.1≤l.2
  ·rw[if_pos hc];refine⟨⟨List.pairwise_append.2 ⟨u1,by simp,fun a ha b hb=>?_⟩,fun q hq=>?_⟩,fun n=>?_,fun q hq=>?_⟩;·rw[List.mem_singleton]at hb;rw[hb];exact u3 a ha l (by simp)
   ·rcases List.mem_append.1 hq with hq|hq;·exact h.each q (by simp[hq])
    ·rw[List.mem_singleton]at hq;rw[hq];simp only;omega
   ·rw[hasR_append,hasR_append,hasR_one,hasR_one,hasR_one,Bool.or_assoc];congr 1;rw[Bool.eq_iff_iff];simp only[Bool.and_eq_true,Bool.or_eq_true,decide_eq_true_eq];omega
   ·simp at hq;rw[←hq];exact h1
  ·rw[if_neg hc];refine⟨⟨List.pairwise_append.2 ⟨h.up,by simp,fun a ha b hb=>?_⟩,fun q hq=>?_⟩,fun n=>hasR_append _ _ _,fun q hq=>?_⟩
   ·rw[List.mem_singleton]at hb;rw[hb];rcases List.mem_append.1 ha with ha|ha;·have:=u3 a ha l (by simp);omega
    ·rw[List.mem_singleton]at ha;rw[ha];omega
   ·rcases List.mem_append.1 hq with hq|hq;·exact h.each q hq
    ·rw[List.mem_singleton]at hq;rw[hq];exact hr
   ·simp at hq;rw[←hq];omega
theorem joinL_ok: ∀(l:Rg),l.Pairwise (fun a b=>a.1≤b.1)→RgEach l→ ∀out,RgOk out→(∀q,out.getLast?=some q→ ∀r∈l,q.1≤r.1)→RgOk (l.foldl joinU out)∧ ∀n,hasR (l.foldl joinU out) n=(hasR out n||hasR l n)|[],_,_,out,ho,_=>⟨ho,fun n=>by simp[hasR]⟩|r::l,hp,he,out,ho,hq=>by obtain⟨p1,p2⟩:=List.pairwise_cons.1 hp;obtain⟨h1,h2,h3⟩:=joinU_ok ho (he r (by simp)) (fun q hq'=>hq q hq' r (by simp));obtain⟨k1,k2⟩:=joinL_ok l p2 (fun q hq'=>he q (by simp[hq'])) (joinU out r) h1 (fun q hq' a ha=>by have:=h3 q hq';have:=p1 a ha;omega);refine⟨k1,fun n=>?_⟩;rw[List.foldl_cons,k2,h2,show r::l=[r]++l from rfl,hasR_append,Bool.or_assoc]
theorem joinU_len(out:Rg)(r:Int×Int):(joinU out r).length≤out.length+1:=by
 rcases List.eq_nil_or_concat out with rfl|⟨i,l,rfl⟩;·simp[joinU_nil]
 ·rw[List.concat_eq_append,joinU_snoc];split<;>simp
theorem joinL_len(l:Rg): ∀out:Rg,(l.foldl joinU out).length≤out.length+l.length:=by induction l with|nil=>intro out;simp|cons r l ih=>intro out;have:=ih (joinU out r);have:=joinU_len out r;simp only[List.foldl_cons,List.length_cons];omega
theorem joinL_snoc(l:Rg)(r:Int×Int):(l++[r]).foldl joinU []=joinU (l.foldl joinU []) r:=by rw[List.foldl_append];rfl
theorem hasR_unique{a b:Rg}(ha:RgOk a)(hb:RgOk b)(h: ∀n,hasR a n=hasR b n):a=b:=by have:nums a=nums b:=up_unique (nums_up ha) (nums_up hb) (fun n=>by rw[nums_mem ha,nums_mem hb,h]);rw[←rgs_eq ha,←rgs_eq hb,this]
theorem rowUp_ext{α:Type}{a b:Row α}(ha:RowUp a)(hb:RowUp b)(h: ∀p,p∈a↔p∈b):a=b:=by
 have key: ∀m:Row α,RowUp m→m.Nodup:=fun m hm=>hm.imp fun{x y}hxy e=>by rw[e,bb_irrefl]at hxy;cases hxy
 refine List.Perm.eq_of_pairwise (le:=fun(x y:List UInt8×α)=>bytesBefore x.1 y.1=true) (fun x y _ _ h1 h2=>?_) ha hb ((List.perm_ext_iff_of_nodup (key a ha) (key b hb)).2 h);have:=bb_trans h1 h2;rw[bb_irrefl]at this;cases this
theorem rg_some{rs:Rg}(h:RgOk rs)(hne:rs≠[]): ∃n,hasR rs n=true:=by cases rs with|nil=>exact absurd rfl hne|cons r rs=>have:=h.each r (by simp);exact⟨r.1,by unfold hasR;simp;left;omega⟩
theorem had_unique{a b:Had}(ha:HadOk a)(hb:HadOk b)(h: ∀s n,hadB a s n=hadB b s n):a=b:=by
 have half: ∀{a b:Had},HadOk a→HadOk b→(∀s n,hadB a s n=hadB b s n)→ ∀p∈a,p∈b:=fun{a b}ha hb h p hp=>by
  have hr:hadRow a p.1=p.2:=by unfold hadRow;rw[getB_of_mem ha.up (v:=p.2) hp];rfl
  have hE:hadRow a p.1=hadRow b p.1:=hasR_unique (ha.row _) (hb.row _) (fun n=>h p.1 n);have hne:=(ha.each p hp).2.2;rw[hr]at hE;unfold hadRow at hE;cases hg:getB b p.1 with|none=>rw[hg]at hE;exact absurd hE hne|some rs=>rw[hg]at hE;have:=getB_mem hg;rw[show p=(p.1,rs)by rw[←show p.2=rs from hE]];exact this
 exact rowUp_ext ha.up hb.up fun p=>⟨half ha hb h p,half hb ha (fun s n=>(h s n).symm) p⟩
theorem u8_info:(Tryz.prog.info? 5).map (fun i=>(i.zero,i.size,i.bytes))=some (some (.int .u8 0),1,1):=by kernel_rfl
def bvs(l:List UInt8):List Value:=l.map fun x=>Value.int .u8 x.toNat
theorem bvs_length(l:List UInt8):(bvs l).length=l.length:=by simp[bvs]
theorem bvs_get(l:List UInt8)(i:Nat)(h:i<l.length):(bvs l)[i]?=some (.int .u8 l[i].toNat):=by simp[bvs,h]
theorem bvs_append(l l':List UInt8):bvs (l++l')=bvs l++bvs l':=by simp[bvs]
def OwnB(w:World)(base:Nat)(v:Value)(l:List UInt8):Prop:=w.ownsRow base 5 1 v l.length (bvs l)
theorem OwnB.nil(w:World)(base:Nat):OwnB w base (.slice none 0 0) []:=World.ownsRow_nil _ _ _ _
theorem OwnB.byt{w:World}{base:Nat}{A:Option Addr}{n c:Nat}{l:List UInt8}(h:OwnB w base (.slice A n c) l):Byt w w.heap.size A n c l:=by
 rcases h.2 with⟨e,hl⟩|⟨g,cap,cur,e,hb,hg,hnc,hm,hs,ht⟩;·have hl':l=[]:=List.eq_nil_of_length_eq_zero hl;subst hl';injection e with e1 e2 e3;subst e1 e2 e3;exact Byt.nil _ _ _ _ (by unfold maxLen;omega)
 ·injection e with e1 e2 e3;subst e1 e2 e3;refine⟨rfl,hnc,hm,fun _=>⟨g,0,rfl,(Array.getElem?_eq_some_iff.1 hg).1,fun i hi=>?_⟩⟩;rw[Nat.zero_add,World.ownsRow.cellAt h i (by omega),bvs_get l i hi]
theorem OwnB.form{w:World}{base:Nat}{v:Value}{l:List UInt8}(h:OwnB w base v l): ∃A c,v=.slice A l.length c:=by
 rcases h.2 with⟨e,hl⟩|⟨g,cap,cur,e,_⟩;·exact⟨none,0,by rw[e,hl]⟩
 ·exact⟨_,_,e⟩
theorem OwnB.below{w w':World}{base B:Nat}{v:Value}{l:List UInt8}(h:OwnB w base v l)(hb:Below B w w')(hB:w.heap.size≤B):OwnB w' base v l:=by
 refine⟨h.1,?_⟩;rcases h.2 with⟨e,hl⟩|⟨g,cap,cur,e,hb',hg,hr⟩;·exact .inl ⟨e,hl⟩
 ·exact .inr ⟨g,cap,cur,e,hb',(hb.block g (by have:=(Array.getElem?_eq_some_iff.1 hg).1;omega)).trans hg,hr⟩
theorem OwnB.base_le{w:World}{base base':Nat}{v:Value}{l:List UInt8}(h:OwnB w base v l)(hb:base'≤base):OwnB w base' v l:=by
 refine⟨h.1,?_⟩;rcases h.2 with⟨e,hl⟩|⟨g,cap,cur,e,hb',hg,hr⟩;·exact .inl ⟨e,hl⟩
 ·exact .inr ⟨g,cap,cur,e,by omega,hg,hr⟩
theorem OwnB.alloc{w:World}{base:Nat}{v:Value}{l:List UInt8}(h:OwnB w base v l)(o:Obj):OwnB (w.alloc o) base v l:=World.ownsRow.alloc h o
theorem run_app8(w:World)(ty:TypeId)(base:Nat)(v:Value)(l:List UInt8)(hown:OwnB w base v l)(B:Nat)(A:Option Addr)(m c:Nat)(l':List UInt8)(hr:Byt w B A m c l')(hlen:l.length+m≤1099511627776)(hbase:base≤w.heap.size): ∃v' w',(Builtin.append_ #[22,22] ty #[v,.slice A m c]).run Tryz.prog w=.ok v' w'∧OwnB w' base v' (l++l')∧w.grownBy w' v.ownBlock∧(v'.ownBlock=v.ownBlock∨v'.ownBlock=some w.heap.size):=by
 obtain⟨i0,hi,hz0,hz1,hz2⟩:=info_parts u8_info;rcases Nat.eq_zero_or_pos m with h0|h0
 ·subst h0;have hl':l'=[]:=List.eq_nil_of_length_eq_zero hr.len;subst hl';refine⟨v,w,?_,by simpa using hown,World.grownBy.refl w _,.inl rfl⟩;rcases hown.2 with⟨rfl,hn⟩|⟨g,cap,cur,rfl,_,_,hnc,_⟩;·cases A<;>simp[Builtin.append_,run_underlying Tryz.underlying22,sizeOf,typeInfo,hi,Builtin.lenOf,Builtin.firstCells,loadCells,loadCellsFrom]
  ·cases A<;>simp[Builtin.append_,run_underlying Tryz.underlying22,sizeOf,typeInfo,hi,Builtin.lenOf,Builtin.firstCells,hnc,loadCells,loadCellsFrom,storeCells]
 ·obtain⟨b,off,rfl,_,hc⟩:=hr.cell h0;obtain⟨v',w',h1,h2,h3,_,h5⟩:=run_append_own_at (P:=Tryz.prog) w base 22 ty 5 i0 (.int .u8 0) 1 1 Tryz.underlying22 hi hz0 hz1 hz2 rfl (by decide) v l.length (bvs l) hown ⟨b,off,none⟩ m c (bvs l') (by rw[bvs_length,hr.len];omega) (fun j u hj=>by
   have hjl:j<l'.length:=by
    rcases Nat.lt_or_ge j l'.length with h|h;·exact h
    ·rw[List.getElem?_eq_none (by rw[bvs_length];exact h)]at hj;cases hj
   rw[bvs_get l' j hjl]at hj;injection hj with hj;subst hj;have:(⟨b,off,none⟩:Addr).add j=⟨b,off+j,none⟩:=by unfold Addr.add;split<;>simp_all
   rw[this];exact hc j hjl) (fun u hu=>by obtain⟨x,_,rfl⟩:=List.mem_map.1 hu;rfl) (by unfold maxLen;omega) (by omega) hbase;refine⟨v',w',h1,?_,h3,h5⟩;unfold OwnB;rw[List.length_append,bvs_append,hr.len];exact h2
theorem wpList_app8{ops:Array Oper}{rest:List Oper}{o:Oper}{a:Act}{Q:Exit→Act→World→Prop}{w:World}(hgd:o.guard=none)(s x:Operand)(ho:o.op=.call {callee:=.builtin .append,args:= #[s,x],argTypes:= #[22,22]})(base:Nat)(v:Value)(l:List UInt8)(hs:a.eval s=v)(hown:OwnB w base v l)(B:Nat)(A:Option Addr)(m c:Nat)(l':List UInt8)(hx:a.eval x=.slice A m c)(hr:Byt w B A m c l')(hlen:l.length+m≤1099511627776)(hbase:base≤w.heap.size)(h: ∀v' w',OwnB w' base v' (l++l')→w.grownBy w' v.ownBlock→(v'.ownBlock=v.ownBlock∨v'.ownBlock=some w.heap.size)→wpList Tryz.prog ops Q rest (a.put o.dst v') w'):wpList Tryz.prog ops Q (o::rest) a w:=wpList_plain hgd fun K hK=>by obtain⟨v',w',h1,h2,h3,h4⟩:=run_app8 w o.type base v l hown B A m c l' hr hlen hbase;unfold Oper.wp execOp;simp only[ho,resolve,invoke,builtin,Sem.run_bind,Sem.run_pure,Result.andThen_ok,List.map_toArray,List.map_cons,List.map_nil,hs,hx,h1];exact hK _ _ (h v' w' h2 h3 h4)
structure PnM(w:World)(base:Nat)(v:Value)(l:List UInt8)(v':Value)(w':World):Prop where
 own:OwnB w' base v' l
 keep:Keep (fun b=>v.ownBlock=some b) w w'
 blk: ∀b,v'.ownBlock=some b→v.ownBlock=some b∨w.heap.size≤b
def PnPost(w:World)(base:Nat)(v:Value)(l:List UInt8)(e:Ending)(w':World):Prop:= ∃v',e=.returned v'∧PnM w base v l v' w'
def PnRel(w:World)(base:Nat)(v:Value)(l:List UInt8)(v' q:Value)(wr:World):Prop:= ∃(n:Nat)(l':List UInt8),q=.int .i64 n∧n<4611686018427387904∧l'++numB n=l∧PnM w base v l' v' wr
theorem PnM.app{w wr w2:World}{base:Nat}{v v1 v2:Value}{l l':List UInt8}(h:PnM w base v l v1 wr)(o:Obj)(ho:OwnB w2 base v2 l')(hg:(wr.alloc o).grownBy w2 v1.ownBlock)(hv:v2.ownBlock=v1.ownBlock∨v2.ownBlock=some (wr.heap.size+1)):PnM w base v l' v2 w2:=by
 have hs:=h.keep.size;refine⟨ho,(h.keep.alloc o).trans (Keep.of_grown (F:=fun b=>v1.ownBlock=some b) hg (fun k e=>e)) (fun b hb hF=>?_),fun b hb=>?_⟩
 ·rcases h.blk b hF with h'|h';·exact h'
  ·omega
 ·rcases hv with e|e;·exact h.blk b (e▸hb)
  ·rw[e]at hb;injection hb with hb;right;omega
theorem numB_len8{n:Nat}(h:n<4611686018427387904):(numB n).length≤9:=by
 by_cases h1:n<128;·rw[numB_lo h1];simp
 ·rw[numB_hi h1];have:=numB_short (n:=n/128) (by omega);simp;omega
theorem or128(x:Nat)(h:x<256):bits .or .u8 (x:Int) 128=((x%128+128:Nat):Int):=by
 have: ∀y:Fin 256,bits .or .u8 ((y.val:Nat):Int) 128=((y.val%128+128:Nat):Int):=by decide+kernel
 exact this ⟨x,h⟩
theorem app_str(w:World)(base:Nat)(v:Value)(l s:List UInt8)(ho:OwnB w base v l)(h0:0<l.length)(hb:base≤w.heap.size)(hl:l.length+s.length≤1000000000000)(ty:TypeId): ∃v' w',(Builtin.append_ #[22,9] ty #[v,.string ⟨s.toArray⟩]).run Tryz.prog w=.ok v' w'∧OwnB w' base v' (l++s)∧w.grownBy w' v.ownBlock∧(v'.ownBlock=v.ownBlock∨v'.ownBlock=some w.heap.size):=by
 obtain⟨i0,hi,hz0,hz1,hz2⟩:=info_parts u8_info;have hss:(⟨s.toArray⟩:ByteArray).size=s.length:=by simp[ByteArray.size]
 have hsc:Lib.strCells ⟨s.toArray⟩=bvs s:=by simp[Lib.strCells,bvs]
 obtain⟨v',w',hr,h2,h3,_⟩:=Lib.run_append_own_string (P:=Tryz.prog) w base 22 9 ty 5 i0 Tryz.underlying22 Tryz.underlying9 hi hz0 hz1 hz2 v l.length (bvs l) ho ⟨s.toArray⟩ (by rw[hss];unfold maxLen;omega) (by rw[hss];omega) hb;refine⟨v',w',hr,?_,h3,?_⟩;·unfold OwnB;rw[bvs_append,List.length_append];rw[hss,hsc]at h2;exact h2
 ·rcases ho.2 with⟨_,h'⟩|⟨g,cap,cur,hv,hbg,hg,hnc,hcm,hcs,htake⟩;·omega
  ·subst hv;by_cases hroom:l.length+(⟨s.toArray⟩:ByteArray).size≤cap;·have h5:=Lib.run_append_room_string (P:=Tryz.prog) w 22 9 ty 5 i0 Tryz.underlying22 Tryz.underlying9 hi hz1 g l.length cap cur hg ⟨s.toArray⟩ hroom (by rw[hcs];omega);rw[hr]at h5;injection h5 with h5 _;left;rw[h5];rfl
   ·have hxl:(bvs l).length=l.length*i0.size:=by rw[hz1,bvs_length];omega
    have h5:=Lib.run_append_grow_string (P:=Tryz.prog) w 22 9 ty 5 i0 (.int .u8 0) Tryz.underlying22 Tryz.underlying9 hi hz0 ⟨g,0,none⟩ l.length cap (bvs l) hxl (World.ownsRow.cells ho (g:=g) rfl) ⟨s.toArray⟩ (by omega) (by rw[hss];omega) (by rw[hz2,hss];exact growslice_fits (by omega) (by omega));rw[hr]at h5;injection h5 with h5 _;right;rw[h5];rfl
theorem PnM.then_{w w1 w2:World}{base:Nat}{v v1 v2:Value}{l l':List UInt8}(h:PnM w base v l v1 w1)(h2:PnM w1 base v1 l' v2 w2):PnM w base v l' v2 w2:=by
 have hs:=h.keep.size;refine⟨h2.own,h.keep.trans h2.keep (fun b hb hF=>?_),fun b hb=>?_⟩
 ·rcases h.blk b hF with h'|h';·exact h'
  ·omega
 ·rcases h2.blk b hb with h'|h';·exact h.blk b h'
  ·right;omega
theorem PnM.up{w w1 w2:World}{base:Nat}{v v1:Value}{l:List UInt8}(h:PnM w base v l v1 w1)(hb:Below w1.heap.size w1 w2):PnM w base v l v1 w2:=⟨h.own.below hb (Nat.le_refl _),h.keep.trans (G:=fun _=>False) (Keep.of_below hb) (fun _ _ h=>h.elim),h.blk⟩
theorem PnM.str{w wr w2:World}{base:Nat}{v v1 v2:Value}{l l':List UInt8}(h:PnM w base v l v1 wr)(ho:OwnB w2 base v2 l')(hg:wr.grownBy w2 v1.ownBlock)(hv:v2.ownBlock=v1.ownBlock∨v2.ownBlock=some wr.heap.size):PnM w base v l' v2 w2:=by
 have hs:=h.keep.size;refine⟨ho,h.keep.trans (Keep.of_grown (F:=fun b=>v1.ownBlock=some b) hg (fun k e=>e)) (fun b hb hF=>?_),fun b hb=>?_⟩
 ·rcases h.blk b hF with h'|h';·exact h'
  ·omega
 ·rcases hv with e|e;·exact h.blk b (e▸hb)
  ·rw[e]at hb;injection hb with hb;right;omega
end Go.Proofs.YtcmmclliabhnjaaGreatDoor
