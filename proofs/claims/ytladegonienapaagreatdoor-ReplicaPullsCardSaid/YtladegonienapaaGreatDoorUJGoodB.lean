/-
  Layer 5, plain: what an erasing leaves of a journal at which nothing goes wrong (for a law that has no deeds).
-/
import Derived.Test.YtladegonienapaaGreatDoorUJlRwB3
set_option maxRecDepth 100000
set_option maxHeartbeats 16000000
namespace Go.Proofs.YtladegonienapaaGreatDoor
open Go.RowKit Go.Maps Go.Sort
def ou(n p:Nat):Nat:=if n=0 then 0 else(n-1)/p*p
theorem zy{n p:Nat}(hp:1≤p):(iw n p-1)*p=ou n p:=by
 unfold ou;split;·next h=>subst h;unfold iw;rw[Nat.div_eq_of_lt (by omega)];simp
 ·next h=>obtain⟨k,rfl⟩:=Nat.exists_eq_succ_of_ne_zero h;rw[Nat.succ_eq_add_one,sW hp];simp
theorem Gx{a b p:Nat}(h:a≤b):ou a p≤ou b p:=by
 unfold ou;split;·exact Nat.zero_le _
 ·rw[if_neg (by omega)];exact Nat.mul_le_mul_right _ (Nat.div_le_div_right (by omega))
structure Jl.Good(j:Jl):Prop where
 fine:j.kz
 inv:j.Inv
 fc:j.files=iw j.es.length j.per
 ok:j.dk.Ok
 sm: ∀e,some e∈j.es→aK e=true
theorem Jl.Nj(s:List UInt8)(per:Nat)(h:s.length≤24)(hp:1≤per):(Jl.new Dk.new s per).Good:=⟨Jl.Eb s per h hp,Jl.Qh s per hp,by show 0=iw 0 per;unfold iw;rw[Nat.div_eq_of_lt (by omega)],Dk.Mw,by simp[Jl.new]⟩
theorem Jl.Py{j:Jl}(h:j.dk.Ok):j.sync.dk.Ok:=by
 unfold Jl.sync;split;·exact h
 ·split;·exact h.sync _
  ·exact h.sync _
theorem Jl.FE{j:Jl}(h:j.dk.Ok):j.pre.dk.Ok:=by
 unfold Jl.pre;split;·exact Jl.Py h
 ·exact h
theorem Jl.Tc{j:Jl}(h:j.dk.Ok)(x:Option Ev):(j.put x).dk.Ok:=by
 unfold Jl.put;split;·exact Jl.FE h
 ·split;·exact(Jl.FE h).append _ _
  ·exact(Jl.FE h).append _ _
section
variable{j:Jl}
theorem Jl.Good.auto(h:j.Good):ou j.es.length j.per≤j.lasts:=by rw[←zy h.fine.per1,←h.fc];exact fI.m0 h.inv
theorem Jl.Good.put(h:j.Good)(hn:j.es.length<100)(e:Ev)(he:aK e=true):(j.put (some e)).Good∧j.jE (some e)=0∧(j.put (some e)).es=j.es++[some e]∧(j.put (some e)).name=j.name∧(j.put (some e)).per=j.per∧(j.put (some e)).lasts=max j.lasts (ou (j.es.length+1) j.per):=by
 have hx:(mK (some e)).length≤1229:=(jk he).len;obtain⟨a1,a2,a3,a4,a5⟩:=h.fine.put hn (some e) hx;obtain⟨b1,b2,b3⟩:=h.inv.put h.fine hn (some e) hx;refine⟨⟨a1,b1,by rw[b3,a3,a5];simp,Jl.Tc h.ok _,fun x hx=>?_⟩,a2,a3,a4,a5,by rw[b2];simp[ou]⟩;rw[a3]at hx;rcases List.mem_append.1 hx with hx|hx;·exact h.sm x hx
 ·simp at hx;subst hx;exact he
end
theorem Jl.Good.puts(l:List Ev): ∀{j:Jl},j.Good→j.es.length+l.length≤100→(∀e∈l,aK e=true)→(j.puts l).Good∧j.iE l=0∧(j.puts l).es=j.es++l.map some∧(j.puts l).name=j.name∧(j.puts l).per=j.per∧(j.puts l).lasts=max j.lasts (ou (j.es.length+l.length) j.per):=by
 induction l with
  |nil=>intro j h _ _;have:=h.auto;exact⟨h,rfl,by simp[Jl.puts],rfl,rfl,by simp[Jl.puts];omega⟩
  |cons e l ih=>
   intro j h hn hl;simp only[List.length_cons]at hn;obtain⟨h1,h2,h3,h4,h5,h6⟩:=h.put (by omega) e (hl e (by simp));obtain⟨a,b,c,d,f,g⟩:=ih h1 (by rw[h3];simp;omega) (fun x hx=>hl x (by simp[hx]));have h0: ¬j.jE (some e)≠0:=by simp[h2]
   simp only[Jl.puts,Jl.iE,if_neg h0];refine⟨a,b,?_,d.trans h4,f.trans h5,?_⟩;·rw[c,h3];simp
   ·rw[g,h6,h3,h5];simp only[List.length_append,List.length_cons,List.length_nil];rw[show j.es.length+(0+1)+l.length=j.es.length+(l.length+1)by omega];have:=Gx (p:=j.per) (show j.es.length+1≤j.es.length+(l.length+1)by omega);omega
/-!### erasing -/
theorem zO(kb:Ev→Bool): ∀l:List (Option Ev),(aF (l.map (iP kb))).length≤(aF l).length
 |[]=>Nat.le_refl _
 |x::l=>by
  have ih:=zO kb l;unfold aF at ih⊢;simp only[List.map_cons,List.flatMap_cons,List.length_append];have:(aU (iP kb x)).length≤(aU x).length:=by
   unfold aU;rw[ky.iB,ky.iB];cases x with
    |none=>exact Nat.le_refl _
    |some e=>
     unfold iP;simp only;split;·exact Nat.le_refl _
     ·simp[mK]
  omega
theorem Gl{kb:Ev→Bool}{per k:Nat}{l:List (Option Ev)}(h:dG kb (aT per k l)=0):dL kb per k l=l:=by unfold dL;rw[KO h,List.append_assoc,←sN,List.take_append_drop]
theorem Gj(kb:Ev→Bool)(per k:Nat)(l:List (Option Ev))(h:k*per≤l.length):(dL kb per k l).take ((k+1)*per)=l.take (k*per)++(aT per k l).map (iP kb):=by
 have hlen:(l.take (k*per)++(aT per k l).map (iP kb)).length=min ((k+1)*per) l.length:=by rw[List.length_append,List.length_take,List.length_map,fP,Nat.succ_mul];omega
 unfold dL;by_cases h4:(k+1)*per≤l.length;·rw[List.take_append_of_le_length (by omega),List.take_of_length_le (by omega)]
 ·rw[List.drop_eq_nil_of_le (by omega),List.append_nil,List.take_of_length_le (by omega)]
theorem uS{kb:Ev→Bool}{l:List (Option Ev)}{e:Ev}(h:some e∈l.map (iP kb)):some e∈l:=by
 obtain⟨x,hx,hxe⟩:=List.mem_map.1 h;cases x with
  |none=>simp[iP]at hxe
  |some y=>
   simp only[iP]at hxe;split at hxe;·injection hxe with hxe;subst hxe;exact hx
   ·cases hxe
section
variable{j:Jl}
theorem Jl.Good.L8(h:j.Good){k:Nat}(hk:k<j.files):k*j.per≤j.es.length:=by have h1:=fI.m0 h.inv;have h2:=fI.m1 h.inv;have h3:k*j.per≤(j.files-1)*j.per:=Nat.mul_le_mul_right _ (by omega);omega
theorem Jl.Good.rew1(h:j.Good)(hn:j.es.length<100)(kb:Ev→Bool){k:Nat}(hk:k<j.files):j.jH kb k=0∧(j.rew1 kb k).Good∧(j.rew1 kb k).es=dL kb j.per k j.es∧(j.rew1 kb k).lasts=if dG kb (aT j.per k j.es)≠0∧k+1=j.files then j.es.length else j.lasts:=by
 unfold Jl.jH Jl.rew1;by_cases h0:dG kb (aT j.per k j.es)=0;·simp only[if_pos h0];exact⟨trivial,h,(Gl h0).symm,by rw[if_neg (by simp[h0])]⟩
 ·simp only[if_neg h0];obtain⟨st,hg,_⟩:=fI.here h.inv k hk;have hfs:=h.fine.small;have hl:=lK j.name (k:=k) (by omega);have hnm:=h.fine.nm;have ha:j.dk.asked (aO j.name k)=0:=Dk.qM h.fine.up hl.1 (by omega);have IA:(j.dk.file (aO j.name k)).data=aF (aT j.per k j.es):=by unfold Dk.file;rw[hg];rfl
  have hle:=zO kb (aT j.per k j.es);have hu:=h.fine.used;have hf:j.dk.fe (aO j.name k) ((aF ((aT j.per k j.es).map (iP kb))).length-(j.dk.file (aO j.name k)).data.length)=false:=by unfold Dk.fe;rw[Bool.or_eq_false_iff];refine⟨?_,by rw[hg];rfl⟩;rw[decide_eq_false_iff_not,IA];omega
  obtain⟨e1,e2⟩:=Dk.CZ ha hf;obtain⟨s1,s2⟩:=Dk.jM h.fine.Em;rw[s2,s1]at e1;rw[s2]at e2;simp only[if_true]at e1 e2;have hok:=h.ok.replace (aO j.name k) (aF ((aT j.per k j.es).map (iP kb)));rw[if_neg (by simp[e2])];rw[e1]at hok⊢;refine⟨e2,⟨⟨h.fine.Em,h.fine.up,h.fine.free,h.fine.per1,h.fine.nm,hok.used0,?_,?_,?_,?_⟩,?_,?_,hok,?_⟩,rfl,?_⟩;·show j.dk.used+_≤1300*((dL kb j.per k j.es).length:Int);rw[bW,IA];omega
  ·show(aL (aO j.name k) _ j.dk.files).length≤(dL kb j.per k j.es).length+1;rw[bW];exact Nat.le_trans (iW _ (by rw[hg];rfl)) h.fine.fl
  ·intro hf0;show(aC (aL (aO j.name k) _ j.dk.files) (aO j.name (j.files-1))).isSome=true;by_cases e:k=j.files-1;·rw[←e,dE];rfl
   ·rw[fT _ _ (fun e'=>e (nK e').symm)];exact h.fine.here hf0
  ·show j.files≤(dL kb j.per k j.es).length+1;rw[bW];exact h.fine.small
  ·have:=fI.replace h.inv hk (bW kb j.per k j.es) (fun i hi=>uR kb j.per k i j.es (h.L8 hk) hi);rw[KH _ _ _ _ (h.L8 hk)]at this;exact this
  ·show j.files=iw (dL kb j.per k j.es).length j.per;rw[bW];exact h.fc
  ·intro e he;have he:some e∈dL kb j.per k j.es:=he;unfold dL at he;rcases List.mem_append.1 he with he|he
   ·rcases List.mem_append.1 he with he|he;·exact h.sm e (List.mem_of_mem_take he)
    ·have:=uS he;exact h.sm e (List.mem_of_mem_drop (List.mem_of_mem_take this))
   ·exact h.sm e (List.mem_of_mem_drop he)
  ·show(if k+1=j.files then j.es.length else j.lasts)=_;by_cases e:k+1=j.files<;>simp[e,h0]
end
theorem Jl.Good.sP(kb:Ev→Bool): ∀(f:Nat){j:Jl}(k all:Nat),j.Good→j.es.length<100→k+f=j.files→ ∃j',Jl.sP kb f j k all=(j',all+dG kb (j.es.drop (k*j.per)),0)∧j'.Good∧j'.es=j.es.take (k*j.per)++(j.es.drop (k*j.per)).map (iP kb)∧j'.name=j.name∧j'.per=j.per∧j'.lasts=if f≠0∧dG kb (aT j.per (j.files-1) j.es)≠0 then j.es.length else j.lasts
 |0,j,k,all,h,hn,hk=>by
  have hd:=fI.last h.inv;refine⟨j,?_,h,?_,rfl,rfl,by simp⟩;·rw[show k=j.files by omega,List.drop_eq_nil_of_le hd];simp[Jl.sP,dG]
  ·rw[show k=j.files by omega,List.drop_eq_nil_of_le hd,List.take_of_length_le hd];simp
 |f+1,j,k,all,h,hn,hk=>by
  obtain⟨a1,a2,a3,a4⟩:=h.rew1 hn kb (k:=k) (by omega);have hs:=Jl.zn j kb k;have hsl:=h.L8 (k:=k) (by omega);obtain⟨j',b1,b2,b3,b4,b5,b6⟩:=Jl.Good.sP kb f (k+1) (all+dG kb (aT j.per k j.es)) a2 (by rw[hs.2.2.2];exact hn) (by rw[hs.2.2.1];omega);rw[a3,hs.2.1]at b3;rw[a3,hs.2.1]at b1;rw[a3,hs.2.1,hs.2.2.1,bW]at b6;rw[xN _ _ _ _ hsl]at b1 b3;rw[Gj _ _ _ _ hsl]at b3;refine⟨j',?_,b2,?_,b4.trans hs.1,b5.trans hs.2.1,?_⟩;·unfold Jl.sP;rw[if_neg (by simp[a1]),b1,sN j.per k j.es,dG,dG,dG,List.filter_append,List.length_append,Nat.add_assoc]
  ·rw[b3,sN j.per k j.es,List.map_append,List.append_assoc]
  ·rw[b6,a4];by_cases e:f=0;·subst e;rw[show j.files-1=k by omega];by_cases hc:dG kb (aT j.per k j.es)=0<;>simp[hc,show k+1=j.files by omega]
   ·rw[uR _ _ _ _ _ hsl (by omega),if_neg (show¬(dG kb (aT j.per k j.es)≠0∧k+1=j.files)by omega)];simp[e]
theorem Jl.Good.vC{j:Jl}(h:j.Good)(hn:j.es.length<100)(kb:Ev→Bool): ∃j',j.vC kb=(j',dG kb j.es,0)∧j'.Good∧j'.es=j.es.map (iP kb)∧j'.name=j.name∧j'.per=j.per∧j'.lasts=if dG kb (j.es.drop (ou j.es.length j.per))≠0 then j.es.length else j.lasts:=by
 obtain⟨j',a1,a2,a3,a4,a5,a6⟩:=Jl.Good.sP kb j.files 0 0 h hn (by omega);have hd:=fI.last h.inv;refine⟨j',?_,a2,by simpa using a3,a4,a5,?_⟩;·unfold Jl.vC;rw[if_neg (by simp[h.fine.free]),←h.fc,a1];simp
 ·rw[a6];by_cases h0:j.files=0
  ·rw[h0]at hd;have h1:=fI.m1 h.inv;have:j.es=[]:=List.eq_nil_of_length_eq_zero (by omega);have hl0:j.lasts=0:=by rw[this]at h1;simpa using h1
   rw[if_neg (by simp[h0]),this];simp[dG]
  ·rw[←zy h.fine.per1,←h.fc,Jw _ (by rw[show j.files-1+1=j.files by omega];exact hd)];simp[h0]
section
variable{j:Jl}
theorem Jl.Good.app(h:j.Good){l:List Ev}(hn:j.es.length+l.length≤100)(hl:l.all aK=true):(j.app l).Good∧j.tY l=0∧j.tX l=j.es.length∧(j.app l).es=j.es++l.map some∧(j.app l).name=j.name∧(j.app l).per=j.per∧(j.app l).lasts=max j.lasts (ou (j.es.length+l.length) j.per):=by obtain⟨a1,a2,a3,a4,a5,a6⟩:=Jl.Good.puts l h hn (fun e he=>List.all_eq_true.1 hl e he);unfold Jl.app Jl.tY Jl.tX;simp only[h.fine.free,ne_eq,not_true_eq_false,if_false,hl,if_true];exact⟨a1,a2,trivial,a3,a4,a5,a6⟩
end
end Go.Proofs.YtladegonienapaaGreatDoor
