/-
  Layer 5, plain: entries are erased, segment by segment.
-/
import Derived.Test.YtladegonienapaaGreatDoorUDInv
set_option maxRecDepth 100000
set_option maxHeartbeats 16000000
namespace Go.Proofs.YtladegonienapaaGreatDoor
open Go.RowKit Go.Maps Go.Sort
def iP(kb:Ev→Bool):Option Ev→Option Ev|none=>none|some e=>if kb e then some e else none
def jY(kb:Ev→Bool):Option Ev→Bool|none=>false|some e=>!kb e
def dG(kb:Ev→Bool)(l:List (Option Ev)):Nat:=(l.filter (jY kb)).length
theorem zJ{kb:Ev→Bool}{x:Option Ev}(h:jY kb x=false):iP kb x=x:=by cases x with|none=>rfl|some e=>simp only[jY,Bool.not_eq_false']at h;simp[iP,h]
theorem Nu{kb:Ev→Bool}{x:Option Ev}(h:jY kb x=true):iP kb x=none:=by cases x with|none=>simp[jY]at h|some e=>simp only[jY,Bool.not_eq_true']at h;simp[iP,h]
theorem zN(kb:Ev→Bool)(l:List (Option Ev))(x:Option Ev):dG kb (l++[x])=dG kb l+(if jY kb x then 1 else 0):=by unfold dG;rw[List.filter_append,List.length_append];cases h:jY kb x<;>simp[h]
theorem KO{kb:Ev→Bool}{l:List (Option Ev)}(h:dG kb l=0):l.map (iP kb)=l:=by unfold dG at h;have h2:=List.eq_nil_of_length_eq_zero h;rw[List.filter_eq_nil_iff]at h2;have: ∀x∈l,iP kb x=x:=fun x hx=>zJ (by simpa using h2 x hx);exact(List.map_congr_left this).trans (List.map_id _)
def dL(kb:Ev→Bool)(per k:Nat)(l:List (Option Ev)):List (Option Ev):=l.take (k*per)++(aT per k l).map (iP kb)++l.drop ((k+1)*per)
theorem bW(kb:Ev→Bool)(per k:Nat)(l:List (Option Ev)):(dL kb per k l).length=l.length:=by unfold dL;simp only[List.length_append,List.length_take,List.length_map,fP,List.length_drop,Nat.succ_mul];omega
theorem KH(kb:Ev→Bool)(per k:Nat)(l:List (Option Ev))(h:k*per≤l.length):aT per k (dL kb per k l)=(aT per k l).map (iP kb):=by
 have h1:(l.take (k*per)).length=k*per:=by rw[List.length_take];omega
 have e:aT per k (dL kb per k l)=((aT per k l).map (iP kb)++l.drop ((k+1)*per)).take per:=by unfold dL;show List.take per (List.drop (k*per) _)=_;rw[List.append_assoc,List.drop_append_of_le_length (by omega),List.drop_eq_nil_of_le (by omega),List.nil_append]
 rw[e];by_cases h2:(k+1)*per≤l.length
 ·have h3:((aT per k l).map (iP kb)).length=per:=by rw[List.length_map,fP];rw[Nat.succ_mul]at h2;omega
  rw[List.take_append_of_le_length (by omega),List.take_of_length_le (by omega)]
 ·rw[List.drop_eq_nil_of_le (by omega),List.append_nil,List.take_of_length_le (by rw[List.length_map];exact PK _ _ _)]
theorem uR(kb:Ev→Bool)(per k i:Nat)(l:List (Option Ev))(h:k*per≤l.length)(hi:i≠k):aT per i (dL kb per k l)=aT per i l:=by
 have hl:=bW kb per k l;rcases Nat.lt_or_ge i k with h1|h1
 ·have h2:(i+1)*per≤k*per:=Nat.mul_le_mul_right _ h1;have e:dL kb per k l=l.take (k*per)++((aT per k l).map (iP kb)++l.drop ((k+1)*per)):=by unfold dL;rw[List.append_assoc]
  rw[e,uy _ _ (by rw[List.length_take];omega),oO _ h2]
 ·have h2:(k+1)*per≤i*per:=Nat.mul_le_mul_right _ (by omega);have h3:(dL kb per k l).drop (i*per)=l.drop (i*per):=by
   by_cases h4:(k+1)*per≤l.length
   ·have h5:(l.take (k*per)++(aT per k l).map (iP kb)).length=(k+1)*per:=by rw[List.length_append,List.length_take,List.length_map,fP];rw[Nat.succ_mul]at*;omega
    unfold dL;rw[show i*per=(k+1)*per+(i*per-(k+1)*per)by omega,←List.drop_drop,←List.drop_drop,List.drop_left' h5]
   ·rw[List.drop_eq_nil_of_le (by omega),List.drop_eq_nil_of_le (by omega)]
  unfold aT;rw[h3]
def Jl.rew1(j:Jl)(kb:Ev→Bool)(k:Nat):Jl:=if dG kb (aT j.per k j.es)=0 then j else if j.dk.bz (aO j.name k) (aF ((aT j.per k j.es).map (iP kb)))≠0 then{j with dk:=j.dk.replace (aO j.name k) (aF ((aT j.per k j.es).map (iP kb))),stuck:=j.dk.bz (aO j.name k) (aF ((aT j.per k j.es).map (iP kb)))}else{j with dk:=j.dk.replace (aO j.name k) (aF ((aT j.per k j.es).map (iP kb))),es:=dL kb j.per k j.es,lasts:=if k+1=j.files then j.es.length else j.lasts}
def Jl.jH(j:Jl)(kb:Ev→Bool)(k:Nat):Int:=if dG kb (aT j.per k j.es)=0 then 0 else j.dk.bz (aO j.name k) (aF ((aT j.per k j.es).map (iP kb)))
def Jl.nM(j:Jl)(kb:Ev→Bool)(k:Nat):Nat:=if j.jH kb k≠0 then 0 else dG kb (aT j.per k j.es)
theorem Jl.zn(j:Jl)(kb:Ev→Bool)(k:Nat):(j.rew1 kb k).name=j.name∧(j.rew1 kb k).per=j.per∧(j.rew1 kb k).files=j.files∧(j.rew1 kb k).es.length=j.es.length:=by
 unfold Jl.rew1;split;·exact⟨rfl,rfl,rfl,rfl⟩
 ·split;·exact⟨rfl,rfl,rfl,rfl⟩
  ·exact⟨rfl,rfl,rfl,bW _ _ _ _⟩
def Jl.sP(kb:Ev→Bool):Nat→Jl→Nat→Nat→Jl×Nat×Int|0,j,_,all=>(j,all,0)|f+1,j,k,all=>if j.jH kb k≠0 then(j.rew1 kb k,all,j.jH kb k)else Jl.sP kb f (j.rew1 kb k) (k+1) (all+dG kb (aT j.per k j.es))
def Jl.vC(j:Jl)(kb:Ev→Bool):Jl×Nat×Int:=if j.stuck≠0 then(j,0,j.stuck)else Jl.sP kb (iw j.es.length j.per) j 0 0
end Go.Proofs.YtladegonienapaaGreatDoor
