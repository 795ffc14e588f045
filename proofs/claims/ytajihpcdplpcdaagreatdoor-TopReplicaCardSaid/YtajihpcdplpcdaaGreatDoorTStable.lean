/-
  slices.SortStableFunc at events; event.Sort.
-/
import Derived.Test.YtajihpcdplpcdaaGreatDoorTStSym3
import Derived.Test.YtajihpcdplpcdaaGreatDoorTTopPl
set_option maxRecDepth 100000
set_option maxHeartbeats 16000000
namespace Go.Proofs.YtajihpcdplpcdaaGreatDoor
open Go.RowKit Go.Maps Go.Sort
def StPost(w0:World)(base g n cap:Nat)(l:List Ev)(e:Ending)(w':World):Prop:=e=.returned (.tuple #[])∧ ∃l',SortedE l'∧l'.Perm l∧Srt w0 base g n cap l' w'
def St1(w0:World)(base g n cap:Nat)(l:List Ev)(av bv:Value)(wr:World):Prop:= ∃(p:Nat)(D R:List Ev),av=.int .i64 (p:Int)∧bv=.int .i64 ((p+20:Nat):Int)∧D.length=p∧p+R.length=n∧Done 20 D∧(D++R).Perm l∧Srt w0 base g n cap (D++R) wr
def St2(w0:World)(base g n cap:Nat)(l:List Ev)(sv:Value)(wr:World):Prop:= ∃(s:Nat)(l1:List Ev),sv=.int .i64 (s:Int)∧0<s∧s≤2000000+20∧Blocks s l1∧l1.Perm l∧Srt w0 base g n cap l1 wr
def St3(w0:World)(base g n cap:Nat)(l:List Ev)(s:Nat)(av bv:Value)(wr:World):Prop:= ∃(p:Nat)(D R:List Ev),av=.int .i64 (p:Int)∧bv=.int .i64 ((p+2*s:Nat):Int)∧D.length=p∧p+R.length=n∧Done (2*s) D∧Blocks s R∧(D++R).Perm l∧Srt w0 base g n cap (D++R) wr
theorem stable_any(w0 w:World)(base g n cap:Nat)(l:List Ev)(h:Srt w0 base g n cap l w)(hn:n≤1000000):Calls Tryz.prog 50 #[.slice (some ⟨g,0,none⟩) n cap,.int .i64 n,cmpV] w (StPost w0 base g n cap l):=by
 have HH:=qH (show St1 w0 base g n cap l (.int .i64 0) (.int .i64 20) w from⟨0,[],l,rfl,rfl,rfl,by rw[Nat.zero_add];exact h.len.symm,Done.nil _,List.Perm.refl _,h⟩);clear h;go_enter Tryz.func50,Tryz.ntmps50;go_wp2;go_loopw[7,8](fun a b wr=>St1 w0 base g n cap l a b wr)(fun a _ _=>n-(intOf a).toNat);case atStart=>exact HH.out
 case round=>
  obtain⟨p,D,R,rfl,rfl,hD,hR,hdn,hpm,hS⟩:=hrel;have HD:=qH hD;have HR:=qH hR;have HDN:=qH hdn;have HPM:=qH hpm;have HS:=qH hS;have hpn:p≤n:=by omega
  obtain⟨q,hq⟩: ∃q,q=p+20:=⟨_,rfl⟩;rw[←hq];have hpq1:p+20≤q:=by omega
  have hpq2:q≤p+20:=by omega
  clear hD hR hdn hpm hS HH hq;by_cases hqn:q≤n
  ·have t1:(q:Int)≤n:=by omega
   have hRl:20≤R.length:=by have:=HR.out;omega
   have HC:=qH (insSort_any w0 wr base g n cap D (R.take 20) (R.drop 20) (by rw[List.append_assoc,List.take_append_drop];exact HS.out) hn p q HD.out (by rw[List.length_take];omega));go_wp2_with fail;with_reducible refine HC.out.mono ?_
   rintro r9 w2⟨rfl,S',h1,h2,h3⟩;have HRL:=qH (show St1 w0 base g n cap l (.int .i64 (q:Int)) (.int .i64 ((q:Int)+20)) w2 from⟨q,D++S',R.drop 20,rfl,by congr 1,by rw[List.length_append,HD.out,h2.length_eq,List.length_take];omega,by rw[List.length_drop];have:=HR.out;omega,HDN.out.more h1 (by rw[h2.length_eq,List.length_take];omega),by
    refine List.Perm.trans ?_ HPM.out;have e:D++R=D++R.take 20++R.drop 20:=by rw[List.append_assoc,List.take_append_drop]
    rw[e];exact(h2.append_left D).append_right _,h3⟩);clear h1 h2 h3 HC;go_wp2;go_roundw;case rel=>exact HRL.out
   case measure=>simp[intOf];omega
  ·have t1: ¬(q:Int)≤n:=by omega
   have HC:=qH (insSort_any w0 wr base g n cap D R [] (by simpa using HS.out) hn p n HD.out HR.out);go_wp2_with fail;with_reducible refine HC.out.mono ?_
   rintro r9 w2⟨rfl,S',h1,h2,h3⟩;have HST:=qH (show St2 w0 base g n cap l (.int .i64 20) w2 from⟨20,D++S',rfl,by omega,by omega,HDN.out S' (.last S' h1 (by rw[h2.length_eq];have:=HR.out;omega)),(h2.append_left D).trans HPM.out,by simpa using h3⟩);clear h1 h2 h3 HC HS HPM HDN HD HR;go_wp2;go_loopw[6,7,8,9](fun s _ _ _ wz=>St2 w0 base g n cap l s wz)(fun s _ _ _ _=>n-(intOf s).toNat);case atStart=>exact HST.out
   case round=>
    obtain⟨s,l1,rfl,hs0,hs1,hbl,hpm,hS⟩:=hrel;have HBL:=qH hbl;have HPM:=qH hpm;have HS:=qH hS;clear hbl hpm hS HST;generalize wr=wz at*;by_cases hsn:s<n
    ·have t2:(s:Int)<n:=by omega
     have HT:=qH (show St3 w0 base g n cap l s (.int .i64 0) (.int .i64 (2*(s:Int))) wz from⟨0,[],l1,rfl,by congr 1;omega,rfl,by rw[Nat.zero_add];exact HS.out.len.symm,Done.nil _,HBL.out,HPM.out,HS.out⟩);clear HBL HPM HS;go_wp2;go_loopw[7,8](fun a b wv=>St3 w0 base g n cap l s a b wv)(fun a _ _=>n-(intOf a).toNat);case atStart=>exact HT.out
     case round=>
      obtain⟨p,D,R,rfl,rfl,hD,hR,hdn,hblk,hpm,hS⟩:=hrel;have HD:=qH hD;have HR:=qH hR;have HDN:=qH hdn;have HBK:=qH hblk;have HPM:=qH hpm;have HS:=qH hS;have hpn:p≤n:=by omega
      obtain⟨q,hq⟩: ∃q,q=p+2*s:=⟨_,rfl⟩;rw[←hq];have hpq1:p+2*s≤q:=by omega
      have hpq2:q≤p+2*s:=by omega
      clear hD hR hdn hblk hpm hS HT hq;generalize wr=wv at*;obtain⟨ps,hps⟩: ∃ps,ps=p+s:=⟨_,rfl⟩;have hps1:p+s≤ps:=by omega
      have hps2:ps≤p+s:=by omega
      by_cases hqn:q≤n
      ·have t3:(q:Int)≤n:=by omega
       obtain⟨e1,e2,r',hRe,g1,g2,g3,g4,g5⟩:=HBK.out.two hs0 (by have:=HR.out;omega);have HC:=qH (symMerge_any (e1.length+e2.length) w0 wv base g n cap D e1 e2 r' (Nat.le_refl _) (by have:=HS.out;rw[hRe]at this;simpa only[List.append_assoc]using this) g1 g2 (by omega) (by omega) hn p ps q HD.out (by omega) (by omega));have HRE:=qH hRe;have HG5:=qH g5;have HG3:=qH g3;have HG4:=qH g4;have s1:(p:Int)+s=ps:=by omega
       clear hRe g1 g2 g3 g4 g5 hps;go_wp2_with fail;with_reducible refine HC.out.mono ?_
       rintro r9 w2⟨rfl,M,h1,h2,h3⟩;have HRL:=qH (show St3 w0 base g n cap l s (.int .i64 (q:Int)) (.int .i64 ((q:Int)+2*s)) w2 from⟨q,D++M,r',rfl,by first|rfl|(congr 1;omega),by have hm:=h2.length_eq;have:=HG3.out;have:=HG4.out;have:=HD.out;simp at hm⊢;omega,by have h4:=congrArg List.length HRE.out;have:=HG3.out;have:=HG4.out;have:=HR.out;simp at h4;omega,HDN.out.more h1 (by have hm:=h2.length_eq;have:=HG3.out;have:=HG4.out;simp at hm;omega),HG5.out,by
        refine List.Perm.trans ?_ HPM.out;rw[HRE.out];have e:D++(e1++e2++r')=D++(e1++e2)++r':=by simp only[List.append_assoc]
        rw[e];exact(h2.append_left D).append_right _,h3⟩);clear h1 h2 h3 HC s1;go_wp2;go_roundw;case rel=>exact HRL.out
       case measure=>simp[intOf];omega
      ·have t3: ¬(q:Int)≤n:=by omega
       have s1:(p:Int)+s=ps:=by omega
       by_cases hm:ps<n
       ·have t4:(ps:Int)<n:=by omega
        obtain⟨e1,e2,hRe,g1,g2,g3,g4⟩:=HBK.out.rest (by have:=HR.out;omega) (by have:=HR.out;omega);have hel:e1.length+e2.length=R.length:=by rw[hRe,List.length_append]
        have HC:=qH (symMerge_any (e1.length+e2.length) w0 wv base g n cap D e1 e2 [] (Nat.le_refl _) (by have:=HS.out;rw[hRe]at this;simpa only[List.append_assoc,List.append_nil]using this) g1 g2 (by omega) g4 hn p ps n HD.out (by omega) (by have:=HR.out;omega));have HRE:=qH hRe;have HEL:=qH hel;clear hRe g1 g2 g3 g4 hps hel;go_wp2_with fail;with_reducible refine HC.out.mono ?_
        rintro r9 w2⟨rfl,M,h1,h2,h3⟩;have HRL:=qH (show St2 w0 base g n cap l (.int .i64 ((s:Int)*2)) w2 from⟨2*s,D++M,by congr 1;omega,by omega,by omega,HDN.out M (.last M h1 (by rw[h2.length_eq,List.length_append];have:=HEL.out;have:=HR.out;omega)),by refine List.Perm.trans ?_ HPM.out;rw[HRE.out];exact h2.append_left D,by simpa using h3⟩);clear h1 h2 h3 HC s1;go_wp2;go_roundw;case rel=>exact HRL.out
        case measure=>simp[intOf];omega
       ·have t4: ¬(ps:Int)<n:=by omega
        have HRL:=qH (show St2 w0 base g n cap l (.int .i64 ((s:Int)*2)) wv from⟨2*s,D++R,by congr 1;omega,by omega,by omega,HDN.out R (.last R (HBK.out.one (by have:=HR.out;omega)) (by have:=HR.out;omega)),HPM.out,HS.out⟩);clear hps;go_wp2;go_roundw;case rel=>exact HRL.out
        case measure=>simp[intOf];omega
    ·have t2: ¬(s:Int)<n:=by omega
     have HF:=qH (show StPost w0 base g n cap l (.returned (.tuple #[])) wz from⟨rfl,l1,HBL.out.one (by have:=HS.out.len;omega),HPM.out,HS.out⟩);clear HBL HPM HS;go_wp2;go_end0;exact HF.out
def I1(w:World)(x:Int)(iv:Value)(wr:World):Prop:=iv=.int .i64 x∧w=wr
def I2(w:World)(x y:Int)(iv jv:Value)(wr:World):Prop:=iv=.int .i64 x∧jv=.int .i64 y∧w=wr
theorem ins0_any(w:World)(v:Value):Calls Tryz.prog 90 #[v,.int .i64 0,.int .i64 0,cmpV] w fun e w'=>e=.returned (.tuple #[])∧w=w':=by
 go_enter Tryz.func90,Tryz.ntmps90;go_wp2;go_loopw[8](fun i wr=>I1 w 1 i wr)(fun _ _=>0);case atStart=>exact⟨rfl,rfl⟩
 case round=>obtain⟨rfl,rfl⟩:=hrel;go_wp2;go_end0;exact⟨rfl,rfl⟩
theorem stable0_any(w:World)(v:Value):Calls Tryz.prog 50 #[v,.int .i64 0,cmpV] w fun e w'=>e=.returned (.tuple #[])∧w=w':=by
 go_enter Tryz.func50,Tryz.ntmps50;go_wp2;go_loopw[7,8](fun a b wr=>I2 w 0 20 a b wr)(fun _ _ _=>0);case atStart=>exact⟨rfl,rfl,rfl⟩
 case round=>
  obtain⟨rfl,rfl,rfl⟩:=hrel;go_wp2_with fail;refine(ins0_any w v).mono ?_;rintro r9 w2⟨rfl,rfl⟩;go_wp2;go_loopw[6](fun s wr=>I1 w 20 s wr)(fun _ _=>0);case atStart=>exact⟨rfl,rfl⟩
  case round=>obtain⟨rfl,rfl⟩:=hrel;go_wp2;go_end0;exact⟨rfl,rfl⟩
theorem Evs.clip{w:World}{B n c:Nat}{A:Option Addr}{es:List Ev}(h:Evs w B A n c es):Evs w B A n n es:=⟨Cel.len h,Nat.le_refl _,Nat.le_trans (Cel.cap h) (Cel.max h),Cel.cell h⟩
def ClipPost(w:World)(A:Option Addr)(n:Nat)(e:Ending)(w':World):Prop:=e=.returned (.slice A n n)∧w=w'
theorem clip_any(w:World)(A:Option Addr)(n c:Nat)(hA:A=none∧n=0∧c=0∨ ∃g,A=some ⟨g,0,none⟩)(hc:n≤c)(hm:c≤maxLen):Calls Tryz.prog 26 #[.slice A n c] w (ClipPost w A n):=by
 have hm':c≤9223372036854775807:=hm;rcases hA with⟨rfl,rfl,rfl⟩|⟨g,rfl⟩;·go_enter Tryz.func26,Tryz.ntmps26;go_wp2;go_ret;exact⟨rfl,rfl⟩
 ·go_enter Tryz.func26,Tryz.ntmps26;go_wp2;go_ret;exact⟨rfl,rfl⟩
theorem sstab0_any(w:World):Calls Tryz.prog 24 #[.slice none 0 0,cmpV] w fun e w'=>e=.returned (.tuple #[])∧w=w':=by go_enter Tryz.func24,Tryz.ntmps24;go_wp2_with fail;refine(stable0_any w _).mono ?_;rintro r9 w2⟨rfl,rfl⟩;go_wp2;go_end0;exact⟨rfl,rfl⟩
theorem sstab_any(w0 w:World)(base g n cap:Nat)(l:List Ev)(h:Srt w0 base g n cap l w)(hn:n≤1000000):Calls Tryz.prog 24 #[.slice (some ⟨g,0,none⟩) n cap,cmpV] w (StPost w0 base g n cap l):=by have HH:=qH h;clear h;go_enter Tryz.func24,Tryz.ntmps24;go_wp2_with fail;refine(stable_any w0 w base g n cap l HH.out hn).mono ?_;rintro r9 w2⟨rfl,l',h1,h2,h3⟩;have HF:=qH (show StPost w0 base g n cap l (.returned (.tuple #[])) w2 from⟨rfl,l',h1,h2,h3⟩);clear h1 h2 h3;go_wp2;go_end0;exact HF.out
def SortPost(w:World)(es:List Ev)(e:Ending)(w':World):Prop:= ∃(B:Option Addr)(c:Nat)(l:List Ev),e=.returned (.slice B es.length c)∧Evs w' w'.heap.size B es.length c l∧SortedE l∧l.Perm es∧Below w.heap.size w w'
theorem evsort_any(w:World)(A:Option Addr)(n c:Nat)(es:List Ev)(h:Evs w w.heap.size A n c es)(hn:n≤200000):Calls Tryz.prog 13 #[.slice A n c] w (SortPost w es):=by
 have HH:=qH h;clear h;go_enter Tryz.func13,Tryz.ntmps13;go_wp2_with fail;refine(clone_any w A n c es HH.out hn).mono ?_;rintro r w1⟨v1,rfl,ho1,hb1⟩;have hel:es.length≤200000:=by rw[HH.out.len];exact hn
 rcases ho1.2 with⟨hv,h0⟩|⟨g,cap,cur,hv,hg,hrow,hlc,hcm,_⟩;·subst hv;have he:es=[]:=List.eq_nil_of_length_eq_zero h0;subst he;have HF:=qH (show SortPost w [] (.returned (.slice none 0 0)) w1 from⟨none,0,[],rfl,Cel.nil _ _ _ _ _ (Nat.zero_le _),List.Pairwise.nil,List.Perm.refl _,hb1⟩);clear ho1 h0;go_wp2_with fail;refine(sstab0_any w1).mono ?_;rintro r9 w2⟨rfl,rfl⟩;go_wp2_with fail;refine(clip_any w1 none 0 0 (.inl ⟨rfl,rfl,rfl⟩) (Nat.le_refl _) (Nat.zero_le _)).mono ?_;rintro r9 w2⟨rfl,rfl⟩;go_wp2;go_ret;exact HF.out
 ·subst hv;have HS:=qH (show Srt w1 w.heap.size g es.length cap es w1 from⟨ho1,rfl,⟨rfl,rfl,rfl,Nat.le_refl _,fun _ _ _=>rfl⟩⟩);have HB1:=qH hb1;clear ho1 hrow hb1;go_wp2_with fail;refine(sstab_any w1 w1 w.heap.size g es.length cap es HS.out (by omega)).mono ?_;rintro r9 w2⟨rfl,l',h1,h2,h3⟩;have HF:=qH (show SortPost w es (.returned (.slice (some ⟨g,0,none⟩) es.length es.length)) w2 from⟨some ⟨g,0,none⟩,es.length,l',rfl,by have h4:=h3.own;unfold OwnE at h4;rw[←h3.len]at h4;have h5:Evs w2 w2.heap.size (some ⟨g,0,none⟩) es.length cap l':=Cel.of_own h4;exact h5.clip,h1,h2,Below.grown HB1.out h3.grown HB1.out.size (fun k hk=>by injection hk with hk;omega)⟩);clear h1 h2 h3;go_wp2_with fail;refine(clip_any w2 (some ⟨g,0,none⟩) es.length cap (.inr ⟨g,rfl⟩) hlc hcm).mono ?_;rintro r9 w3⟨rfl,rfl⟩;go_wp2;go_ret;exact HF.out
end Go.Proofs.YtajihpcdplpcdaaGreatDoor
