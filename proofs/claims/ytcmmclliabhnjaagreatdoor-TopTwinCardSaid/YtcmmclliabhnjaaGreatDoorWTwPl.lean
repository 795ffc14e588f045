/-
  Layer 8: the closure of right: whether an event stays.
-/
import Derived.Test.YtcmmclliabhnjaaGreatDoorWPtClk
import Derived.Test.YtcmmclliabhnjaaGreatDoorWHdNum
import Derived.Test.YtcmmclliabhnjaaGreatDoorWTaleRow
import Derived.Test.YtcmmclliabhnjaaGreatDoorWGrPlain
import Derived.Test.YtcmmclliabhnjaaGreatDoorWKeys
import Derived.Test.YtcmmclliabhnjaaGreatDoorWPnM
import Derived.Test.YtcmmclliabhnjaaGreatDoorWHad
import Derived.Test.YtcmmclliabhnjaaGreatDoorWSets
import Derived.Deep.DeepCutAuto
import Derived.Test.YtcmmclliabhnjaaGreatDoorWItkTake
import Derived.Test.YtcmmclliabhnjaaGreatDoorWParts
set_option maxRecDepth 100000
set_option maxHeartbeats 16000000
namespace Go.Proofs.YtcmmclliabhnjaaGreatDoor
open Go.RowKit Go.Maps Go.Sort
structure GoneOk(l:List (List UInt8)):Prop where
 name: ∀j(h:j<l.length),nameB l[j]=true
 up: ∀j(h:j<l.length),0<j→bytesBefore (l[j-1]'(by omega)) l[j]=true
def staysB(gone:List (List UInt8))(e:Ev):Bool:=!decide (e.per∈gone)||(e.kind==14)
def tkB(gone:List (List UInt8))(had:Had)(l:List Ev)(k:Nat)(e:Ev):Bool:=mayB e&&!decide (idOf e∈(l.take k).map idOf)&&staysB gone e&&hadB had e.src e.num&&(decide (k=0)||(cmpE e (l.getD (k-1) e)==1))&&(!(e.kind==14)||decide (e.per∈gone))
def ltB(gone:List (List UInt8))(l:List Ev)(k:Nat)(e:Ev):Bool:=mayB e&&!decide (idOf e∈(l.take k).map idOf)&&staysB gone e
structure RightOk(gone:List (List UInt8))(had:Had)(taken late:List Ev):Prop where
 len:taken.length≤1048576
 taken: ∀k(h:k<taken.length),tkB gone had taken k taken[k]=true
 late: ∀k(h:k<late.length),ltB gone late k late[k]=true
theorem cI_one{x y:Int}:0<Lib.compareInt x y↔Lib.compareInt x y=1:=by unfold Lib.compareInt;split<;>(try split)<;>omega
theorem cB_one: ∀(a b:List UInt8),0<Lib.compareBytes a b↔Lib.compareBytes a b=1
 |[],[]=>by simp[Lib.compareBytes]
 |[],_::_=>by simp[Lib.compareBytes]
 |_::_,[]=>by simp[Lib.compareBytes]
 |x::a,y::b=>by
  have ih:=cB_one a b;unfold Lib.compareBytes;split;·omega
  ·split;·omega
   ·exact ih
theorem cmpE_one{a b:Ev}:0<cmpE a b↔cmpE a b=1:=by
 unfold cmpE orI;split;·exact cI_one
 ·split;·exact cB_one _ _
  ·exact cI_one
theorem may_forgetP{e:Ev}(h:mayB e=true)(hk:e.kind=14):forgetB e=true:=by unfold mayB tailB at h;unfold forgetB;rw[hk]at h;simp only[Bool.and_eq_true]at h⊢;have h2:=h.2;simp at h2;simp[hk,h.1,h2]
theorem forget_kindP{e:Ev}(h:forgetB e=true):e.kind=14∧nameB e.per=true:=by unfold forgetB at h;simp only[Bool.and_eq_true,beq_iff_eq]at h;exact⟨h.1.1.1.1.1,h.1.1.1.2⟩
structure PtInv(x:Itk):Prop where
 lids:(x.late.map idOf).Nodup
 name: ∀p∈x.gone,nameB p=true
theorem PtInv.new(slack idle:Int):PtInv (Itk.new slack idle):=⟨by simp[Itk.new],fun p hp=>by simp[Itk.new]at hp⟩
theorem PtInv.tick{x:Itk}(h:PtInv x)(now:Int):PtInv (x.tick now):=⟨h.lids,h.name⟩
theorem PtInv.hear{x:Itk}(h:PtInv x)(e:Ev)(now:Int):PtInv (x.hear e now):=⟨h.lids,h.name⟩
theorem PtInv.drop{x:Itk}(h:PtInv x)(p:Ev→Bool):PtInv (x.drop p):=⟨(List.filter_sublist.map idOf).nodup h.lids,h.name⟩
theorem PtInv.took{x:Itk}{e:Ev}(h:PtInv x)(hm:mayB e=true):PtInv (x.took e):=by
 unfold Itk.took;split
 ·rename_i hk;refine PtInv.drop (x:={x.put e with gone:=e.per::x.gone}) ⟨h.lids,fun p hp=>?_⟩ _;rcases List.mem_cons.1 hp with rfl|hp;·exact(forget_kindP (may_forgetP hm hk)).2
  ·exact h.name p hp
 ·exact⟨h.lids,h.name⟩
theorem PtInv.lates{x:Itk}(h:PtInv x)(e:Ev):PtInv (x.lates e):=by
 unfold Itk.lates;split;·exact h
 ·rename_i hn;refine⟨?_,h.name⟩;show((x.late++[e]).map idOf).Nodup;rw[List.map_append,List.nodup_append];refine⟨h.lids,by simp,fun a ha b hb hab=>?_⟩;simp at hb;subst hb;subst hab;exact hn ha
theorem PtInv.offer{x:Itk}(h:PtInv x)(e:Ev)(now:Int):PtInv (x.offer e now):=by
 unfold Itk.offer;split;·exact h.tick now
 ·rename_i hr;have hm:=(not_refused (show(x.tick now).refuses e=false by simpa using hr)).1;split;·exact((h.tick now).hear e now).took hm
  ·exact((h.tick now).hear e now).lates e
theorem PlayInv.right{x:Itk}(h:PlayInv x)(h2:PtInv x)(hl:x.taken.length≤1048576):RightOk x.gone x.had x.taken x.late:=by
 refine⟨hl,fun k hk=>?_,fun k hk=>?_⟩
 ·have hm:x.taken[k]∈x.taken:=List.getElem_mem hk;unfold tkB;rw[h.may _ (.inl hm),h.kept _ hm];have h1:idOf x.taken[k]∉(x.taken.take k).map idOf:=fun hc=>by obtain⟨a,ha,he⟩:=List.mem_map.1 hc;obtain⟨i,hi,rfl⟩:=List.getElem_of_mem ha;rw[List.length_take]at hi;rw[List.getElem_take]at he;have:=(List.pairwise_iff_getElem.1 h.ids) i k (by simp;omega) (by simp;omega) (by omega);rw[List.getElem_map,List.getElem_map]at this;exact this he
  have h2:staysB x.gone x.taken[k]=true:=by
   unfold staysB;by_cases hg:x.taken[k].per∈x.gone;·have:=h.inv.stay _ (.inl hm) hg;simp[this]
   ·simp[hg]
  have h3:(decide (k=0)||(cmpE x.taken[k] (x.taken.getD (k-1) x.taken[k])==1))=true:=by
   by_cases h0:k=0;·simp[h0]
   ·have hk1:k-1<x.taken.length:=by omega
    have e1:x.taken.getD (k-1) x.taken[k]=x.taken[k-1]:=by rw[List.getD_eq_getElem?_getD,List.getElem?_eq_getElem hk1];rfl
    rw[e1];have hle:=(List.pairwise_iff_getElem.1 h.sorted) (k-1) k hk1 hk (by omega);have hne:=(List.pairwise_iff_getElem.1 h.ids) (k-1) k (by simp;omega) (by simp;omega) (by omega);rw[List.getElem_map,List.getElem_map]at hne;have:LtE x.taken[k-1] x.taken[k]:=by
     by_cases hlt:LtE x.taken[k-1] x.taken[k];·exact hlt
     ·rcases LtE.total hlt with h'|⟨_,e2,e3⟩;·exact absurd h' hle
      ·exact absurd (by unfold idOf;rw[e2,e3]) hne
    have:=cmpE_one.1 (cmpE_pos.2 this);simp[this]
  have h4:(!(x.taken[k].kind==14)||decide (x.taken[k].per∈x.gone))=true:=by
   by_cases h14:x.taken[k].kind=14;·have:=h.inv.forg _ hm h14;simp[this]
   ·simp[h14]
  rw[h2,h3,h4];simpa using h1
 ·have hm:x.late[k]∈x.late:=List.getElem_mem hk;unfold ltB;rw[h.may _ (.inr hm)];have h1:idOf x.late[k]∉(x.late.take k).map idOf:=fun hc=>by obtain⟨a,ha,he⟩:=List.mem_map.1 hc;obtain⟨i,hi,rfl⟩:=List.getElem_of_mem ha;rw[List.length_take]at hi;rw[List.getElem_take]at he;have:=(List.pairwise_iff_getElem.1 h2.lids) i k (by simp;omega) (by simp;omega) (by omega);rw[List.getElem_map,List.getElem_map]at this;exact this he
  have h3:staysB x.gone x.late[k]=true:=by
   unfold staysB;by_cases hg:x.late[k].per∈x.gone;·have:=h.inv.stay _ (.inr hm) hg;simp[this]
   ·simp[hg]
  rw[h3];simpa using h1
theorem gone_ok{x:Itk}(h:PtInv x){r:List (List UInt8)}(hr:Rising r x.gone):GoneOk r:=⟨fun j hj=>h.name _ ((hr.2 _).1 (List.getElem_mem hj)),fun j hj h0=>by
 have:=(List.pairwise_iff_getElem.1 hr.1) (j-1) j (by omega) hj (by omega);rcases bb_total (fun e=>lt_irr _ (e▸this):r[j-1]'(by omega)≠r[j])with h'|h';·exact h'
 ·exact absurd (bb_lt h') (fun h2=>lt_asy this h2)⟩
/-!### of each identity the one that counts -/
def upE(bt:Ev→Ev→Bool)(e:Ev):List Ev→List Ev|[]=>[e]|o::l=>if idOf o=idOf e then(if bt e o then e::l else o::l)else o::upE bt e l
def onceE(bt:Ev→Ev→Bool)(l:List Ev):List Ev:=l.foldl (fun out e=>upE bt e out) []
theorem onceE_snoc(bt:Ev→Ev→Bool)(l:List Ev)(e:Ev):onceE bt (l++[e])=upE bt e (onceE bt l):=by unfold onceE;rw[List.foldl_append];rfl
section
variable{bt:Ev→Ev→Bool}
theorem upE_mem{e x:Ev}: ∀{l:List Ev},x∈upE bt e l→x=e∨x∈l
 |[],h=>by simp[upE]at h;exact .inl h
 |o::l,h=>by
  unfold upE at h;split at h
  ·split at h
   ·rcases List.mem_cons.1 h with h|h;·exact .inl h
    ·exact .inr (List.mem_cons_of_mem _ h)
   ·exact .inr h
  ·rcases List.mem_cons.1 h with h|h;·exact .inr (by simp[h])
   ·exact(upE_mem h).imp id (List.mem_cons_of_mem _)
theorem upE_ids{e:Ev}: ∀l:List Ev,(upE bt e l).map idOf=if idOf e∈l.map idOf then l.map idOf else l.map idOf++[idOf e]
 |[]=>by simp[upE]
 |o::l=>by
  unfold upE;split;·rename_i h;split<;>simp[h]
  ·rename_i h;rw[List.map_cons,upE_ids l];have h2: ¬idOf e=idOf o:=fun e'=>h e'.symm;by_cases hm:idOf e∈l.map idOf;·rw[if_pos hm,if_pos (by rw[List.map_cons];exact List.mem_cons_of_mem _ hm)];rfl
   ·rw[if_neg hm,if_neg (by rw[List.map_cons,List.mem_cons];rintro(h3|h3);exact h2 h3;exact hm h3)];rfl
theorem onceE_nodup(l:List Ev):((onceE bt l).map idOf).Nodup:=by
 have key: ∀(l out:List Ev),(out.map idOf).Nodup→((l.foldl (fun out e=>upE bt e out) out).map idOf).Nodup:=fun l=>by
  induction l with
   |nil=>exact fun out h=>h
   |cons e l ih=>
    intro out h;refine ih _ ?_;rw[upE_ids];split;·exact h
    ·rename_i hm;rw[List.nodup_append];exact⟨h,by simp,fun a ha b hb=>by rw[List.mem_singleton.1 hb];exact fun e'=>hm (e'▸ha)⟩
 exact key l [] (by simp)
theorem onceE_mem{l:List Ev}{x:Ev}(h:x∈onceE bt l):x∈l:=by
 have key: ∀(l out:List Ev),x∈l.foldl (fun out e=>upE bt e out) out→x∈out∨x∈l:=fun l=>by
  induction l with
   |nil=>exact fun out h=>.inl h
   |cons e l ih=>
    intro out h;rcases ih _ h with h|h
    ·rcases upE_mem h with h|h;·exact .inr (by simp[h])
     ·exact .inl h
    ·exact .inr (List.mem_cons_of_mem _ h)
 rcases key l [] h with h|h;·cases h
 ·exact h
theorem onceE_ids(l:List Ev)(i:List UInt8×Int):i∈(onceE bt l).map idOf↔i∈l.map idOf:=by
 have key: ∀(l out:List Ev),i∈(l.foldl (fun out e=>upE bt e out) out).map idOf↔i∈out.map idOf∨i∈l.map idOf:=fun l=>by
  induction l with
   |nil=>intro out;simp
   |cons e l ih=>
    intro out;rw[List.foldl_cons,ih,upE_ids,List.map_cons,List.mem_cons];split
    ·rename_i hm;constructor
     ·rintro(h|h);·exact .inl h
      ·exact .inr (.inr h)
     ·rintro(h|h|h);·exact .inl h
      ·exact .inl (h▸hm)
      ·exact .inr h
    ·rw[List.mem_append,List.mem_singleton,or_assoc]
 rw[onceE,key l []];simp
theorem onceE_len(l:List Ev):(onceE bt l).length≤l.length:=by
 have h1:=onceE_nodup (bt:=bt) l;have key: ∀(l out:List Ev),(l.foldl (fun out e=>upE bt e out) out).length≤out.length+l.length:=fun l=>by
  induction l with
   |nil=>intro out;simp
   |cons e l ih=>
    intro out;have h2:=ih (upE bt e out);have h3:(upE bt e out).length≤out.length+1:=by have:=congrArg List.length (upE_ids (bt:=bt) (e:=e) out);rw[List.length_map]at this;rw[this];split<;>simp
    rw[List.foldl_cons,List.length_cons];omega
 unfold onceE;simpa using key l []
theorem onceE_alike{l:List Ev}(h:AlikeP l)(x:Ev):x∈onceE bt l↔x∈l:=by refine⟨onceE_mem,fun hx=>?_⟩;have h1:idOf x∈(onceE bt l).map idOf:=(onceE_ids l _).2 (List.mem_map.2 ⟨x,hx,rfl⟩);obtain⟨y,hy,e⟩:=List.mem_map.1 h1;have hyl:=onceE_mem hy;unfold idOf at e;injection e with e1 e2;have:y=x:=h y hyl x hx e1 e2;exact this▸hy
end
/-!### the clock of both -/
def joinS(a b:Row (Int×Int)):Row (Int×Int):=b.foldl (fun m p=>putB p.1 (match getB a p.1 with|none=>p.2|some o=>(max p.2.1 o.1,max p.2.2 o.2)) m) a
def joinC(a b:Clk):Clk:=(⟨a.slack,a.idle,max a.now b.now,max a.mark b.mark,joinS a.src b.src⟩:Clk).rise
theorem joinS_up{a:Row (Int×Int)}(h:RowUp a)(b:Row (Int×Int)):RowUp (joinS a b):=by
 have key: ∀(b m:Row (Int×Int)),RowUp m→RowUp (b.foldl (fun m p=>putB p.1 (match getB a p.1 with|none=>p.2|some o=>(max p.2.1 o.1,max p.2.2 o.2)) m) m):=fun b=>by induction b with|nil=>exact fun m h=>h|cons p b ih=>exact fun m h=>ih _ (putB_rising h _ _)
 exact key b a h
theorem joinS_len(a b:Row (Int×Int)):(joinS a b).length≤a.length+b.length:=by
 have key: ∀(b m:Row (Int×Int)),(b.foldl (fun m p=>putB p.1 (match getB a p.1 with|none=>p.2|some o=>(max p.2.1 o.1,max p.2.2 o.2)) m) m).length≤m.length+b.length:=fun b=>by induction b with|nil=>intro m;simp|cons p b ih=>intro m;have h1:=ih (putB p.1 (match getB a p.1 with|none=>p.2|some o=>(max p.2.1 o.1,max p.2.2 o.2)) m);have h2:=putB_length_le m p.1 (match getB a p.1 with|none=>p.2|some o=>(max p.2.1 o.1,max p.2.2 o.2));rw[List.foldl_cons,List.length_cons];omega
 exact key b a
theorem joinS_all{a b:Row (Int×Int)}{P:List UInt8×(Int×Int)→Prop}(ha: ∀p∈a,P p)(hb: ∀p∈b,P p)(hm: ∀s u v,P (s,u)→P (s,v)→P (s,(max u.1 v.1,max u.2 v.2))): ∀p∈joinS a b,P p:=by
 have key: ∀(b m:Row (Int×Int)),(∀p∈b,P p)→(∀p∈m,P p)→ ∀p∈b.foldl (fun m p=>putB p.1 (match getB a p.1 with|none=>p.2|some o=>(max p.2.1 o.1,max p.2.2 o.2)) m) m,P p:=fun b=>by
  induction b with
   |nil=>exact fun m _ h=>h
   |cons p b ih=>
    intro m hb h;refine ih _ (fun q hq=>hb q (List.mem_cons_of_mem _ hq)) (fun q hq=>?_);rcases putB_mem.1 hq with rfl|⟨hq,_⟩
    ·have hp:=hb p (by simp);split;·exact hp
     ·rename_i o ho;exact hm _ _ _ hp (ha _ (getB_mem ho))
    ·exact h q hq
 exact key b a hb ha
theorem ClkOk.join{a b:Clk}(ha:ClkOk a)(hb:ClkOk b):ClkOk (joinC a b):=by
 have h1:=ha.now;have h2:=hb.now;have h3:=ha.mark;have h4:=hb.mark;refine ClkOk.rise ⟨ha.slack,ha.idle,by simp only;omega,by simp only;omega,joinS_up ha.rising _,?_⟩;refine joinS_all (P:=fun p=>nameB p.1=true∧0≤p.2.1∧p.2.1≤1099511627776∧0≤p.2.2∧p.2.2≤max a.now b.now) (fun p hp=>?_) (fun p hp=>?_) (fun s u v hu hv=>?_);·have:=ha.src p hp;exact⟨this.1,this.2.1,this.2.2.1,this.2.2.2.1,by omega⟩
 ·have:=hb.src p hp;exact⟨this.1,this.2.1,this.2.2.1,this.2.2.2.1,by omega⟩
 ·simp only at hu hv⊢;exact⟨hu.1,by omega,by omega,by omega,by omega⟩
theorem rise_four(c:Clk):c.rise.src=c.src∧c.rise.slack=c.slack∧c.rise.idle=c.idle∧c.rise.now=c.now:=by unfold Clk.rise;split<;>exact⟨rfl,rfl,rfl,rfl⟩
/-!### what was had by one of both -/
theorem rg_at{rs:Rg}(h:RgOk rs){r:Int×Int}(hr:r∈rs):hasR rs r.1=true∧hasR rs (r.1-1)=false:=by
 have he:=h.each r hr;refine⟨List.any_eq_true.2 ⟨r,hr,by simp;omega⟩,?_⟩;rw[hasR,List.any_eq_false];intro s hs;have hes:=h.each s hs;have hp:=List.pairwise_iff_getElem.1 h.up;obtain⟨i,hi,rfl⟩:=List.getElem_of_mem hr;obtain⟨j,hj,rfl⟩:=List.getElem_of_mem hs;simp only[Bool.and_eq_true,decide_eq_true_eq,not_and];intro h1 h2;rcases Nat.lt_trichotomy i j with hij|hij|hij;·have:=hp i j hi hj hij;omega
 ·subst hij;omega
 ·have:=hp j i hj hi hij;omega
theorem rg_first{rs:Rg}(_h:RgOk rs){n:Int}(h1:hasR rs n=true)(h2:hasR rs (n-1)=false):n∈rs.map (·.1):=by
 obtain⟨r,hr,hd⟩:=List.any_eq_true.1 h1;simp only[Bool.and_eq_true,decide_eq_true_eq]at hd;refine List.mem_map.2 ⟨r,hr,?_⟩;rw[hasR,List.any_eq_false]at h2;have:=h2 r hr;simp only[Bool.and_eq_true,decide_eq_true_eq,not_and]at this;rcases Int.lt_or_le r.1 n with h3|h3;·have:=this (by omega);omega
 ·omega
theorem nodup_sub{α:Type}{a b:List α}(h:a.Nodup)(hs: ∀x∈a,x∈b):a.length≤b.length:=by
 induction a generalizing b with
  |nil=>simp
  |cons x a ih=>
   have hx:=hs x (by simp);obtain⟨s,t,rfl⟩:=List.append_of_mem hx;rw[List.nodup_cons]at h;have:=ih (b:=s++t) h.2 fun y hy=>by
    have:=hs y (List.mem_cons_of_mem _ hy);simp only[List.mem_append,List.mem_cons]at this⊢;rcases this with h1|h1|h1;·exact .inl h1
    ·subst h1;exact absurd hy h.1
    ·exact .inr h1
   simp only[List.length_append,List.length_cons]at this⊢;omega
theorem rg_join_len{a b c:Rg}(ha:RgOk a)(hb:RgOk b)(hc:RgOk c)(h: ∀n,hasR c n=(hasR a n||hasR b n)):c.length≤a.length+b.length:=by
 have h1:(c.map (·.1)).Nodup:=List.pairwise_map.2 (List.Pairwise.imp_of_mem (fun{r s}hr hs h1 e=>by have:=hc.each r hr;omega) hc.up);have h2:=nodup_sub (b:=a.map (·.1)++b.map (·.1)) h1 fun n hn=>by
  obtain⟨r,hr,rfl⟩:=List.mem_map.1 hn;obtain⟨k1,k2⟩:=rg_at hc hr;rw[h]at k1 k2;simp only[Bool.or_eq_true,Bool.or_eq_false_iff]at k1 k2;rw[List.mem_append];rcases k1 with k1|k1;·exact .inl (rg_first ha k1 k2.1)
  ·exact .inr (rg_first hb k1 k2.2)
 simpa using h2
theorem had_key{m:Had}(h:HadOk m){s:List UInt8}:s∈m.map (·.1)↔ ∃n,hadB m s n=true:=by
 constructor;·intro hs;obtain⟨p,hp,rfl⟩:=List.mem_map.1 hs;obtain⟨h1,h2,h3⟩:=h.each p hp;obtain⟨n,hn⟩:=rg_some h2 h3;refine⟨n,?_⟩;unfold hadB hadRow;rw[getB_of_mem h.up (show(p.1,p.2)∈m from hp)];exact hn
 ·rintro⟨n,hn⟩;unfold hadB hadRow at hn;cases hg:getB m s with|none=>rw[hg]at hn;simp[hasR]at hn|some v=>exact List.mem_map.2 ⟨_,getB_mem hg,rfl⟩
theorem had_join_len{a b c:Had}(ha:HadOk a)(hb:HadOk b)(hc:HadOk c)(h: ∀s n,hadB c s n=(hadB a s n||hadB b s n)):c.length≤a.length+b.length:=by
 have h1:(c.map (·.1)).Nodup:=List.pairwise_map.2 (List.Pairwise.imp (fun{p q}hxy e=>by rw[e,bb_irrefl]at hxy;cases hxy) hc.up);have h2:=nodup_sub (b:=a.map (·.1)++b.map (·.1)) h1 fun s hs=>by
  obtain⟨n,hn⟩:=(had_key hc).1 hs;rw[h]at hn;rw[List.mem_append];rcases(Bool.or_eq_true _ _).mp hn with hn|hn;·exact .inl ((had_key ha).2 ⟨n,hn⟩)
  ·exact .inr ((had_key hb).2 ⟨n,hn⟩)
 simpa using h2
/-!### both -/
def mgT(bt:Ev→Ev→Bool)(g:List (List UInt8))(a b:List Ev):List Ev:=(onceE bt (a++b)).filter (staysB g)
structure MgI(bt:Ev→Ev→Bool)(x y z:Itk):Prop where
 clk:z.clk=joinC x.clk y.clk
 hok:HadOk z.had
 had: ∀s n,hadB z.had s n=(hadB x.had s n||hadB y.had s n)
 gone:z.gone=x.gone++y.gone
 tso:SortedE z.taken
 tpe:z.taken.Perm (mgT bt z.gone x.taken y.taken)
 lso:SortedE z.late
 lpe:z.late.Perm ((mgT bt z.gone x.late y.late).filter fun e=>!hadB z.had e.src e.num)
theorem mgT_nodup(bt:Ev→Ev→Bool)(g:List (List UInt8))(a b:List Ev):((mgT bt g a b).map idOf).Nodup:=(List.filter_sublist.map idOf).nodup (onceE_nodup _)
theorem mgT_mem{bt:Ev→Ev→Bool}{g:List (List UInt8)}{a b:List Ev}{e:Ev}(h:e∈mgT bt g a b):(e∈a∨e∈b)∧staysB g e=true:=by obtain⟨h1,h2⟩:=List.mem_filter.1 h;exact⟨List.mem_append.1 (onceE_mem h1),h2⟩
theorem mgT_len(bt:Ev→Ev→Bool)(g:List (List UInt8))(a b:List Ev):(mgT bt g a b).length≤a.length+b.length:=by have h1:=List.length_filter_le (staysB g) (onceE bt (a++b));have h2:=onceE_len (bt:=bt) (a++b);rw[List.length_append]at h2;unfold mgT;omega
section
variable{bt:Ev→Ev→Bool}{x y z z':Itk}
theorem MgI.tids(h:MgI bt x y z):(z.taken.map idOf).Nodup:=(h.tpe.map idOf).nodup_iff.2 (mgT_nodup _ _ _ _)
theorem MgI.lids(h:MgI bt x y z):(z.late.map idOf).Nodup:=(h.lpe.map idOf).nodup_iff.2 ((List.filter_sublist.map idOf).nodup (mgT_nodup _ _ _ _))
theorem MgI.tmem(h:MgI bt x y z){e:Ev}(he:e∈z.taken):(e∈x.taken∨e∈y.taken)∧staysB z.gone e=true:=mgT_mem (h.tpe.mem_iff.1 he)
theorem MgI.lmem(h:MgI bt x y z){e:Ev}(he:e∈z.late):(e∈x.late∨e∈y.late)∧staysB z.gone e=true:=mgT_mem (List.mem_filter.1 (h.lpe.mem_iff.1 he)).1
theorem MgI.play(h:MgI bt x y z)(hx:PlayInv x)(hy:PlayInv y):PlayInv z where
 inv:=⟨fun _ _=>trivial,fun _ _=>trivial,fun p _=>⟨⟨[],0,0,0,p,[],0,[]⟩,trivial,rfl⟩,fun e he hg=>by have hs:staysB z.gone e=true:=he.elim (fun h'=>(h.tmem h').2) (fun h'=>(h.lmem h').2);unfold staysB at hs;simpa[hg]using hs,fun e he hk=>by
  rw[h.gone,List.mem_append];rcases(h.tmem he).1 with h1|h1;·exact .inl (hx.inv.forg e h1 hk)
  ·exact .inr (hy.inv.forg e h1 hk)⟩
 ok:=h.hok
 sorted:=h.tso
 ids:=h.tids
 kept:=fun e he=>by
  rw[h.had,Bool.or_eq_true];rcases(h.tmem he).1 with h1|h1;·exact .inl (hx.kept e h1)
  ·exact .inr (hy.kept e h1)
 may:=fun e he=>by
  rcases he with he|he
  ·rcases(h.tmem he).1 with h1|h1;·exact hx.may e (.inl h1)
   ·exact hy.may e (.inl h1)
  ·rcases(h.lmem he).1 with h1|h1;·exact hx.may e (.inr h1)
   ·exact hy.may e (.inr h1)
 risen:=by rw[h.clk];exact rise_rise _
 now:=by have h1:=hx.now;rw[h.clk];show 0≤(joinC x.clk y.clk).now;unfold joinC;rw[(rise_four _).2.2.2];simp only;omega
theorem MgI.pt(h:MgI bt x y z)(hx:PtInv x)(hy:PtInv y):PtInv z:=⟨h.lids,fun p hp=>by rw[h.gone,List.mem_append]at hp;exact hp.elim (hx.name p) (hy.name p)⟩
theorem MgI.itkOk(h:MgI bt x y z){N M:Nat}(hx:ItkOk N x)(hy:ItkOk M y)(h1:HadOk x.had)(h2:HadOk y.had):ItkOk (N+M) z:=by
 have hpl: ∀e,e∈z.taken∨e∈z.late→mayB e=true:=fun e he=>by
  rcases he with he|he
  ·rcases(h.tmem he).1 with h1|h1;·exact hx.may e (.inl h1)
   ·exact hy.may e (.inl h1)
  ·rcases(h.lmem he).1 with h1|h1;·exact hx.may e (.inr h1)
   ·exact hy.may e (.inr h1)
 refine⟨h.tso,hpl,?_,?_,fun s=>?_,?_,?_⟩;·rw[h.clk];unfold joinC;rw[(rise_four _).1];have:=joinS_len x.clk.src y.clk.src;have:=hx.src;have:=hy.src;simp only;omega
 ·have:=had_join_len h1 h2 h.hok h.had;have:=hx.had;have:=hy.had;omega
 ·have:=rg_join_len (h1.row s) (h2.row s) (h.hok.row s) (fun n=>h.had s n);have:=hx.rows s;have:=hy.rows s;omega
 ·have:=h.tpe.length_eq;have:=mgT_len bt z.gone x.taken y.taken;have:=hx.taken;have:=hy.taken;omega
 ·have:=h.lpe.length_eq;have:=mgT_len bt z.gone x.late y.late;have:=List.length_filter_le (fun e=>!hadB z.had e.src e.num) (mgT bt z.gone x.late y.late);have:=hx.late;have:=hy.late;omega
end
def LeftPost(w:World)(q:Bool)(r:Ending)(w':World):Prop:=r=.returned (.bool q)∧Below w.heap.size w w'
theorem twleft_any(w:World)(b n:Nat)(gs:List (List UInt8))(h:SetB w b n gs)(e:Ev)(hs:e.small):Calls Tryz.prog 46 #[.map (some b),e.agg] w (LeftPost w (!staysB gs e)):=by
 have HB:=qH (show Below w.heap.size w (w.alloc (evObj e))from(Below.refl _ _).alloc (Nat.le_refl _) _);have hlk:=(h.alloc (evObj e)).look e.per (by have:=hs.2.1;unfold maxLen;omega);have hst:(!staysB gs e)=(decide (e.per∈gs)&&!(e.kind==14)):=by unfold staysB;cases decide (e.per∈gs)<;>simp
 have HST:=qH hst;clear h hst;unfold Ev.agg;go_enter Tryz.func46,Tryz.ntmps46;cases hg:decide (e.per∈gs)with|false=>rw[hg]at hlk HST;clear hg;go_wp2;go_ret;exact⟨ret_bool (by rw[HST.out];rfl),HB.out⟩|true=>rw[hg]at hlk HST;clear hg;go_wp2;go_ret;exact⟨ret_bool (by rw[HST.out];rfl),HB.out⟩
theorem ev8_cells{W:World}{b:Nat}{e:Ev}(h:W.heap[b]?=some (evObj e)):W.cell? ⟨b,0,none⟩=some (.string ⟨e.src.toArray⟩)∧W.cell? ⟨b,1,none⟩=some (.int .i64 e.num)∧W.cell? ⟨b,2,none⟩=some (.int .i64 e.at_)∧W.cell? ⟨b,3,none⟩=some (.int .i64 e.kind)∧W.cell? ⟨b,4,none⟩=some (.string ⟨e.per.toArray⟩)∧W.cell? ⟨b,5,none⟩=some (.string ⟨e.item.toArray⟩)∧W.cell? ⟨b,6,none⟩=some (.int .i64 e.val)∧W.cell? ⟨b,7,none⟩=some (.string ⟨e.text.toArray⟩):=by have key: ∀o,W.cell? ⟨b,o,none⟩=_:=fun o=>cell_of_row W b o _ _ (0,0) h;exact⟨(key 0).trans rfl,(key 1).trans rfl,(key 2).trans rfl,(key 3).trans rfl,(key 4).trans rfl,(key 5).trans rfl,(key 6).trans rfl,(key 7).trans rfl⟩
theorem twmg1_any(w:World)(bx b n:Nat)(gs:List (List UInt8))(hx:w.heap[bx]?=some (.cells #[.map (some b)] 93))(h:SetB w b n gs)(s:List UInt8)(k:Int)(e:Ev)(hs:e.small):Calls Tryz.prog 45 #[.agg #[.string ⟨s.toArray⟩,.int .i64 k],e.agg,.pointer (some ⟨bx,0,none⟩)] w (LeftPost w (!staysB gs e)):=by
 have hb1:Below w.heap.size w ((w.alloc (.cells #[.string ⟨s.toArray⟩,.int .i64 k] 102)).alloc (evObj e)):=((Below.refl _ _).alloc (Nat.le_refl _) _).alloc (by simp) _;have HL:=qH (twleft_any _ b n gs (h.below hb1 h.lt) e hs);have HB:=qH hb1;have hx1:=(hb1.block _ (heap_lt hx)).trans hx;have he1:((w.alloc (.cells #[.string ⟨s.toArray⟩,.int .i64 k] 102)).alloc (evObj e)).heap[w.heap.size+1]?=some (evObj e):=by have:=heap_alloc_new (w.alloc (.cells #[.string ⟨s.toArray⟩,.int .i64 k] 102)) (evObj e);simpa using this
 have HX:=qH hx1;have HE:=qH (ev8_cells he1);clear hx h hb1 hx1 he1;unfold evObj at HL HB HX HE;unfold Ev.agg at HL⊢;go_enter Tryz.func45,Tryz.ntmps45;go_upto_region 1 with fail;generalize World.alloc (World.alloc w _) _=w1 at*;have c0:w1.cell? ⟨bx,0,none⟩=some (.map (some b)):=(cell_of_row w1 bx 0 _ _ (0,0) HX.out).trans rfl;obtain⟨e0,e1,e2,e3,e4,e5,e6,e7⟩:=HE.out;go_wp2_with fail;refine HL.out.mono ?_;rintro r w2⟨rfl,hb2⟩;have HF:=qH (HB.out.trans (hb2.mono HB.out.size));clear hb2 c0 HL e0 e1 e2 e3 e4 e5 e6 e7;go_wp2;go_ret;exact⟨rfl,HF.out⟩
theorem twmg2_any(w:World)(bx by_ b n:Nat)(gs:List (List UInt8))(hx:w.heap[bx]?=some (.cells #[.map (some b)] 93))(h:SetB w b n gs)(G:Nat→Prop)(bs bm:Nat)(m:Had)(V:List UInt8→Value)(hy:w.heap[by_]?=some (.cells #[.pointer (some ⟨bs,0,none⟩)] 95))(hh:HadAt w G bs bm m V)(e:Ev)(hs:e.small)(hl:(hadRow m e.src).length≤1000000):Calls Tryz.prog 47 #[.agg #[.string ⟨e.src.toArray⟩,.int .i64 e.num],e.agg,.pointer (some ⟨by_,0,none⟩),.pointer (some ⟨bx,0,none⟩)] w (LeftPost w (hadB m e.src e.num||!staysB gs e)):=by
 have hb1:Below w.heap.size w ((w.alloc (.cells #[.string ⟨e.src.toArray⟩,.int .i64 e.num] 102)).alloc (evObj e)):=((Below.refl _ _).alloc (Nat.le_refl _) _).alloc (by simp) _;have HH:=qH (has_any _ G bs bm m V (hh.up hb1) e.src (by have:=hs.1;omega) hl e.num);have hx1:=(hb1.block _ (heap_lt hx)).trans hx;have hy1:=(hb1.block _ (heap_lt hy)).trans hy;have hs1:=h.below hb1 h.lt;have he1:((w.alloc (.cells #[.string ⟨e.src.toArray⟩,.int .i64 e.num] 102)).alloc (evObj e)).heap[w.heap.size+1]?=some (evObj e):=by have:=heap_alloc_new (w.alloc (.cells #[.string ⟨e.src.toArray⟩,.int .i64 e.num] 102)) (evObj e);simpa using this
 have hi1:((w.alloc (.cells #[.string ⟨e.src.toArray⟩,.int .i64 e.num] 102)).alloc (evObj e)).heap[w.heap.size]?=some (.cells #[.string ⟨e.src.toArray⟩,.int .i64 e.num] 102):=by rw[Below.heap_alloc _ _ _ (by simp)];exact heap_alloc_new w _
 have HI:=qH (And.intro ((cell_of_row _ w.heap.size 0 _ _ (0,0) hi1).trans rfl:_=some (.string ⟨e.src.toArray⟩)) ((cell_of_row _ w.heap.size 1 _ _ (0,0) hi1).trans rfl:_=some (.int .i64 e.num)));have HX:=qH hx1;have HY:=qH hy1;have HS:=qH hs1;have HE:=qH he1;have HB:=qH hb1;clear hx h hy hh hb1 hx1 hy1 hs1 he1 hi1;unfold evObj at HH HX HY HS HB HI HE;unfold Ev.agg at*;go_enter Tryz.func47,Tryz.ntmps47;go_upto_region 1 with fail;generalize World.alloc (World.alloc w _) _=w1 at*;have HEX:=qH (show∀W,Below w1.heap.size w1 W→W.cell? ⟨by_,0,none⟩=some (.pointer (some ⟨bs,0,none⟩))∧W.cell? ⟨bx,0,none⟩=some (.map (some b))∧SetB W b n gs from fun W hW=>⟨(cell_of_row W by_ 0 _ _ (0,0) ((hW.block _ (heap_lt HY.out)).trans HY.out)).trans rfl,(cell_of_row W bx 0 _ _ (0,0) ((hW.block _ (heap_lt HX.out)).trans HX.out)).trans rfl,HS.out.below hW HS.out.lt⟩);obtain⟨c0,_⟩:=HEX.out w1 (Below.refl _ _);obtain⟨i0,i1⟩:=HI.out;have HE8:=qH (show∀W,Below w1.heap.size w1 W→W.heap[w.heap.size+1]?=some (evObj e)from fun W hW=>(hW.block _ (heap_lt HE.out)).trans HE.out);clear HE;go_wp2_with fail;cases hq:hadB m e.src e.num with|true=>have HQ:=qH hq;rw[hq]at HH;refine HH.out.mono ?_;rintro r w2⟨rfl,hb2⟩;have HF:=qH (HB.out.trans (hb2.mono HB.out.size));clear hb2 c0 HH i0 i1 hq;go_wp2;go_ret;exact⟨ret_bool (by rw[HQ.out];rfl),HF.out⟩|false=>have HQ:=qH hq;rw[hq]at HH;refine HH.out.mono ?_;rintro r w2⟨rfl,hb2⟩;have HF:=qH (HB.out.trans (hb2.mono HB.out.size));obtain⟨_,c1,hs2⟩:=HEX.out w2 hb2;obtain⟨e0,e1,e2,e3,e4,e5,e6,e7⟩:=ev8_cells (HE8.out w2 hb2);have HL:=qH (twleft_any w2 b n gs hs2 e hs);unfold Ev.agg at HL;clear hb2 c0 HH i0 i1 hq hs2;go_wp2_with fail;refine HL.out.mono ?_;rintro r w3⟨rfl,hb3⟩;have HF3:=qH (HF.out.trans (hb3.mono HF.out.size));clear hb3 c1 e0 e1 e2 e3 e4 e5 e6 e7;go_wp2;go_ret;exact⟨ret_bool (by rw[HQ.out];rfl),HF3.out⟩
theorem stays_any(w:World)(g bi bg n:Nat)(gone:List (List UInt8))(e:Ev)(hs:e.small)(hc:w.cell? ⟨g,0,none⟩=some (.pointer (some ⟨bi,0,none⟩)))(hb5:w.cell? ⟨bi,5,none⟩=some (.map (some bg)))(hset:SetB w bg n gone):Calls Tryz.prog 167 #[e.agg,.pointer (some ⟨g,0,none⟩)] w (Says (staysB gone e) w):=by
 obtain⟨s1,s2,s3,s4⟩:=hs;have hg:g<w.heap.size:=World.block_lt_of_cell? w ⟨g,0,none⟩ hc;have hbi:bi<w.heap.size:=World.block_lt_of_cell? w ⟨bi,5,none⟩ hb5;have hc':(w.alloc (evObj e)).cell? ⟨g,0,none⟩=_:=(World.cell?_alloc_lt w (evObj e) _ hg).trans hc;have hb5':(w.alloc (evObj e)).cell? ⟨bi,5,none⟩=_:=(World.cell?_alloc_lt w (evObj e) _ hbi).trans hb5;have hl: ∀k,(Instr.lookup 93 (.map (some bg)) (.string ⟨e.per.toArray⟩) false).run Tryz.prog ((w.alloc (evObj e)).drewN k)=.ok (.bool (decide (e.per∈gone))) ((w.alloc (evObj e)).drewN k):=fun k=>((hset.alloc (evObj e)).drewN k).look e.per (by unfold maxLen;omega);have hb:Below w.heap.size w (w.alloc (evObj e)):=(Below.refl _ _).alloc (Nat.le_refl _) _;have HO:=qH (show staysB gone e=(!decide (e.per∈gone)||(e.kind==14))from rfl);obtain⟨e0,e1,e2,e3,e4,e5,e6,e7⟩:=EvIn.new w e;clear hset hc hb5;unfold Ev.agg;generalize hd:decide (e.per∈gone)=d at*;clear hd;go_enter Tryz.func167,Tryz.ntmps167;cases d;·go_wp2;go_quiet(fail);go_wp2;go_ret;exact⟨by rw[HO.out];rfl,below_drewN hb _⟩
 ·go_wp2;go_quiet(fail);go_wp2;go_ret;exact⟨by rw[HO.out];rfl,below_drewN hb _⟩
theorem call_stays(args:Array Value)(w:World):(callFunc 167 args).run Tryz.prog w=.ok (.enter 167 args) w:=by kernel_rfl
end Go.Proofs.YtcmmclliabhnjaaGreatDoor
