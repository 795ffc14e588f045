/-
  Layer 3: what frame.sum, frame.size and the closures of frame.Open give.
-/
import Derived.Test.YtbejfgmdkmddnaaGreatDoorVSets
set_option maxRecDepth 100000
set_option maxHeartbeats 16000000
namespace aN
def rR(p:Nat×Nat)(c:UInt8):Nat×Nat:=((p.1+c.toNat)%65521,(p.2+(p.1+c.toNat)%65521)%65521)
def ad(l:List UInt8):Nat×Nat:=l.foldl rR (1,0)
def uk(l:List UInt8):Nat:=(ad l).2*65536+(ad l).1
theorem KA(l:List UInt8)(c:UInt8):ad (l++[c])=rR (ad l) c:=by simp[ad,List.foldl_append]
theorem Kz(l:List UInt8)(k:Nat)(h:k<l.length):ad (l.take (k+1))=rR (ad (l.take k)) l[k]:=by rw[List.take_add_one,List.getElem?_eq_getElem h];exact KA _ _
theorem KC(l:List UInt8):(ad l).1<65521∧(ad l).2<65521:=by
 rcases List.eq_nil_or_concat l with rfl|⟨l',c,rfl⟩;·decide
 ·rw[List.concat_eq_append,KA];constructor<;>exact Nat.mod_lt _ (by decide)
theorem CW(l:List UInt8):uk l<4294967296:=by have:=KC l;unfold uk;omega
def u8(n:Nat):UInt8:=UInt8.ofNat n
theorem mP(n:Nat):(u8 n).toNat=n%256:=by simp[u8]
def be3(n:Nat):List UInt8:=[u8 (n/65536),u8 (n/256),u8 n]
def be4(n:Nat):List UInt8:=[u8 (n/16777216),u8 (n/65536),u8 (n/256),u8 n]
def front(p:List UInt8):List UInt8:=be3 p.length++(be3 p.length).map (255- ·)++p
def bZ(p:List UInt8):List UInt8:=front p++be4 (uk (front p))
theorem eT(p:List UInt8):(front p).length=p.length+6:=by simp[front,be3]
theorem eP(p:List UInt8):(bZ p).length=p.length+10:=by simp[bZ,eT,be4]
def sz(l:List UInt8):Nat:=(l.getD 0 0).toNat*65536+(l.getD 1 0).toNat*256+(l.getD 2 0).toNat
def eO(l:List UInt8)(i:Nat):Bool:=decide (i<l.length)&&(l.getD i 0 !=255-l.getD (i-3) 0)
def kJ(l:List UInt8):Bool:=eO l 3||eO l 4||eO l 5
def long(l:List UInt8):Bool:=decide (3≤l.length)&&decide (65536<sz l)
def there(l:List UInt8):Bool:=decide (6≤l.length)&&decide (sz l+10≤l.length)
def wrong(l:List UInt8):Bool:=there l&&((l.drop (6+sz l)).take 4 !=be4 (uk (l.take (6+sz l))))
def bad(l:List UInt8):Bool:=kJ l||long l||wrong l
def dm(l:List UInt8):List UInt8×Nat×Nat:=if bad l then([],0,2)else if there l then((l.drop 6).take (sz l),6+sz l+4,0)else([],0,1)
theorem IW(a b:UInt8):a=255-b↔(a.toNat:Int)=255-(b.toNat:Int):=by rw[←UInt8.toNat_inj,UInt8.toNat_sub];have:=a.toNat_lt;have:=b.toNat_lt;have e:(255:UInt8).toNat=255:=rfl;rw[e];omega
theorem sub255(b:UInt8):(255-b).toNat=255-b.toNat:=by rw[UInt8.toNat_sub];have:=b.toNat_lt;have e:(255:UInt8).toNat=255:=rfl;rw[e];omega
theorem DU(l:List UInt8)(k:Nat)(h:k<l.length):eO l k=((l[k].toNat:Int)!=255-(l[k-3].toNat:Int)):=by
 have h3:k-3<l.length:=by omega
 have hb:=l[k-3].toNat_lt;unfold eO;simp only[List.getD,List.getElem?_eq_getElem h,List.getElem?_eq_getElem h3,Option.getD_some,h,decide_true,Bool.true_and];rw[Bool.eq_iff_iff];simp only[bne_iff_ne,ne_eq];rw[IW]
theorem K8(l:List UInt8)(k:Nat)(h3:3≤k)(h6:k<6)(h:eO l k=true):kJ l=true:=by
 unfold kJ;have:k=3∨k=4∨k=5:=by omega
 rcases this with rfl|rfl|rfl<;>simp[h]
theorem zO(l:List UInt8)(k:Nat)(h:l.length≤k):eO l k=false:=by unfold eO;simp;omega
theorem GX(l:List UInt8)(k:Nat)(h: ∀j,3≤j→j<k→eO l j=false)(hl:l.length≤k):kJ l=false:=by unfold kJ;have: ∀j,3≤j→eO l j=false:=fun j h3=>if e:j<k then h j h3 e else zO l j (by omega);simp[this]
theorem DT(l:List UInt8)(k:Nat)(h: ∀j,3≤j→j<k→eO l j=false)(hl:6≤k):kJ l=false:=by unfold kJ;simp[h 3 (by omega) (by omega),h 4 (by omega) (by omega),h 5 (by omega) (by omega)]
theorem XJ(l:List UInt8):sz l<16777216:=by have h0:=(l.getD 0 0).toNat_lt;have h1:=(l.getD 1 0).toNat_lt;have h2:=(l.getD 2 0).toNat_lt;unfold sz;omega
theorem yC(l:List UInt8):(dm l).2.1≤l.length:=by
 unfold dm;split;·simp
 ·split;·rename_i h;simp[there]at h;simp;omega
  ·simp
theorem uP(l:List UInt8)(h:(dm l).2.2=0):10≤(dm l).2.1:=by
 unfold dm at*;split at h;·simp at h
 ·split at h;·rename_i h1 h2;simp[h1,h2]
  ·simp at h
def vI:Nat→List UInt8→List (List UInt8)×Nat×Nat|0,_=>([],0,0)|f+1,l=>if l=[]then([],0,0)else if(dm l).2.2≠0 then([],0,(dm l).2.2)else let r:=vI f (l.drop (dm l).2.1);((dm l).1::r.1,(dm l).2.1+r.2.1,r.2.2)
def mJ(l:List UInt8):List (List UInt8)×Nat×Nat:=vI l.length l
theorem MQ(f:Nat)(l:List UInt8):vI (f+1) l=if l=[]then([],0,0)else if(dm l).2.2≠0 then([],0,(dm l).2.2)else((dm l).1::(vI f (l.drop (dm l).2.1)).1,(dm l).2.1+(vI f (l.drop (dm l).2.1)).2.1,(vI f (l.drop (dm l).2.1)).2.2):=rfl
theorem MR(f:Nat): ∀(l:List UInt8)(g:Nat),l.length≤f→l.length≤g→vI f l=vI g l:=by
 induction f with
  |zero=>intro l g h1 h2;have:l=[]:=List.eq_nil_of_length_eq_zero (by omega);subst this;cases g<;>simp[vI]
  |succ f ih=>
   intro l g h1 h2;cases g with
    |zero=>have:l=[]:=List.eq_nil_of_length_eq_zero (by omega);subst this;simp[vI]
    |succ g=>
     unfold vI;by_cases hl:l=[];·simp[hl]
     ·simp only[hl,if_false];by_cases hs:(dm l).2.2≠0;·simp[hs]
      ·have h10:=uP l (by omega);have hl':=yC l;rw[if_neg hs,if_neg hs,ih (l.drop (dm l).2.1) g (by simp;omega) (by simp;omega)]
theorem MS(l:List UInt8)(h:l≠[])(hs:(dm l).2.2≠0):mJ l=([],0,(dm l).2.2):=by unfold mJ;obtain⟨f,hf⟩: ∃f,l.length=f+1:=⟨l.length-1,by have:=List.length_pos_iff.2 h;omega⟩;rw[hf];unfold vI;rw[if_neg h,if_pos hs]
theorem Ky(l:List UInt8)(h:l≠[])(hs:(dm l).2.2=0):mJ l=((dm l).1::(mJ (l.drop (dm l).2.1)).1,(dm l).2.1+(mJ (l.drop (dm l).2.1)).2.1,(mJ (l.drop (dm l).2.1)).2.2):=by have h10:=uP l hs;have hl':=yC l;obtain⟨f,hf⟩: ∃f,l.length=f+1:=⟨l.length-1,by have:=List.length_pos_iff.2 h;omega⟩;show vI l.length l=_;rw[hf,MQ,if_neg h,if_neg (by omega)];rw[mJ,MR f (l.drop (dm l).2.1) (l.drop (dm l).2.1).length (by simp;omega) (by omega)]
end aN
namespace aN
theorem IQ(p:List UInt8)(r:List UInt8):(bZ p++r).getD 0 0=u8 (p.length/65536)∧(bZ p++r).getD 1 0=u8 (p.length/256)∧(bZ p++r).getD 2 0=u8 p.length∧(bZ p++r).getD 3 0=255-u8 (p.length/65536)∧(bZ p++r).getD 4 0=255-u8 (p.length/256)∧(bZ p++r).getD 5 0=255-u8 p.length:=by simp[bZ,front,be3]
theorem Rv(l:List UInt8)(n:Nat)(h0:l.getD 0 0=u8 (n/65536))(h1:l.getD 1 0=u8 (n/256))(h2:l.getD 2 0=u8 n)(hn:n<16777216):sz l=n:=by unfold sz;rw[h0,h1,h2,mP,mP,mP];omega
theorem EN(p r:List UInt8)(hp:p.length≤65536):dm (bZ p++r)=(p,6+p.length+4,0):=by
 obtain⟨h0,h1,h2,h3,h4,h5⟩:=IQ p r;have hs:=Rv (bZ p++r) p.length h0 h1 h2 (by omega);have hl:(bZ p++r).length=p.length+10+r.length:=by rw[List.length_append,eP]
 have hu:kJ (bZ p++r)=false:=by unfold kJ eO;rw[h3,h4,h5,show 3-3=0 from rfl,show 4-3=1 from rfl,show 5-3=2 from rfl,h0,h1,h2];simp
 have hlo:long (bZ p++r)=false:=by unfold long;rw[hs];simp;omega
 have ht:there (bZ p++r)=true:=by unfold there;rw[hs,hl];simp;omega
 have hf:(bZ p++r).take (6+p.length)=front p:=by unfold bZ;rw[List.append_assoc,List.take_append_of_le_length (by rw[eT];omega),List.take_of_length_le (by rw[eT];omega)]
 have hd:((bZ p++r).drop (6+p.length)).take 4=be4 (uk (front p)):=by unfold bZ;rw[List.append_assoc,List.drop_append,List.drop_eq_nil_of_le (by rw[eT];omega),eT,show 6+p.length-(p.length+6)=0 by omega];simp[be4]
 have hw:wrong (bZ p++r)=false:=by unfold wrong;rw[hs,ht,hd,hf];simp
 have hpay:((bZ p++r).drop 6).take p.length=p:=by simp[bZ,front,be3]
 unfold dm bad;rw[hu,hlo,hw,ht,hs,hpay];rfl
theorem MU(p r:List UInt8)(hp:p.length≤65536):mJ (bZ p++r)=(p::(mJ r).1,6+p.length+4+(mJ r).2.1,(mJ r).2.2):=by
 have ho:=EN p r hp;have hl:=eP p;rw[Ky _ (fun e=>by have:=congrArg List.length e;simp at this;rw[List.eq_nil_iff_length_eq_zero]at this;omega) (by rw[ho]),ho];have:List.drop (6+p.length+4) (bZ p++r)=r:=by rw[List.drop_append,List.drop_eq_nil_of_le (by omega),hl,show 6+p.length+4-(p.length+10)=0 by omega];rfl
 simp only[this]
def zi:List (List UInt8)→List UInt8|[]=>[]|p::l=>bZ p++zi l
end aN
namespace Go.Proofs.YtbejfgmdkmddnaaGreatDoor
def chunks:Nat→List UInt8→List (List UInt8)|0,_=>[]|f+1,l=>if l=[]then[]else l.take 65536::chunks f (l.drop 65536)
def ji(l:List UInt8):List (List UInt8):=chunks l.length l
def aD(l:List UInt8):List UInt8:=aN.zi (ji l)
theorem Gb(f:Nat): ∀(l:List UInt8)(g:Nat),l.length≤f→l.length≤g→chunks f l=chunks g l:=by
 induction f with
  |zero=>intro l g h1 _;have:l=[]:=List.eq_nil_of_length_eq_zero (by omega);subst this;cases g<;>simp[chunks]
  |succ f ih=>
   intro l g h1 h2;cases g with
    |zero=>have:l=[]:=List.eq_nil_of_length_eq_zero (by omega);subst this;simp[chunks]
    |succ g=>
     unfold chunks;by_cases hl:l=[];·simp[hl]
     ·have:=List.length_pos_iff.2 hl;rw[if_neg hl,if_neg hl,ih (l.drop 65536) g (by simp;omega) (by simp;omega)]
theorem Gd:ji []=[]:=rfl
theorem ui(l:List UInt8)(h:l≠[]):ji l=l.take 65536::ji (l.drop 65536):=by have hp:=List.length_pos_iff.2 h;unfold ji;obtain⟨f,hf⟩: ∃f,l.length=f+1:=⟨l.length-1,by omega⟩;rw[hf,chunks,if_neg h,Gb f _ (l.drop 65536).length (by simp;omega) (Nat.le_refl _)]
theorem I5(l:List UInt8): ∀p∈ji l,p.length≤65536:=by
 have key: ∀(f:Nat)(l:List UInt8),∀p∈chunks f l,p.length≤65536:=fun f=>by
  induction f with
   |zero=>intro l p hp;simp[chunks]at hp
   |succ f ih=>
    intro l p hp;unfold chunks at hp;split at hp;·simp at hp
    ·rcases List.mem_cons.1 hp with rfl|hp;·rw[List.length_take];omega
     ·exact ih _ p hp
 exact key _ l
theorem iq(l:List UInt8):(ji l).flatten=l:=by
 have key: ∀(f:Nat)(l:List UInt8),l.length≤f→(chunks f l).flatten=l:=fun f=>by
  induction f with
   |zero=>intro l h;have:l=[]:=List.eq_nil_of_length_eq_zero (by omega);subst this;rfl
   |succ f ih=>
    intro l h;unfold chunks;split;·rename_i h1;rw[h1];rfl
    ·rename_i h1;have:=List.length_pos_iff.2 h1;rw[List.flatten_cons,ih _ (by simp;omega),List.take_append_drop]
 exact key _ l (Nat.le_refl _)
theorem BH: ∀ls:List (List UInt8),(∀p∈ls,p.length≤65536)→aN.mJ (aN.zi ls)=(ls,(aN.zi ls).length,0)|[],_=>rfl|p::ls,h=>by have e:aN.zi (p::ls)=aN.bZ p++aN.zi ls:=rfl;rw[e,aN.MU p _ (h p (by simp)),BH ls fun x hx=>h x (by simp[hx])];rw[List.length_append,aN.eP];simp only[Prod.mk.injEq,and_true,true_and];omega
theorem pV(l:List UInt8):aN.mJ (aD l)=(ji l,(aD l).length,0):=BH _ (I5 l)
theorem wE{a b:List UInt8}(h:aD a=aD b):a=b:=by have h1:=pV a;rw[h,pV b]at h1;injection h1 with h1;rw[←iq a,←iq b,h1]
theorem sZ{l:List UInt8}{q:Nat}(h:l≠[])(hq:q=min l.length 65536):aD l=aN.bZ (l.take q)++aD (l.drop q):=by
 unfold aD;rw[ui l h];show aN.bZ (l.take 65536)++aN.zi (ji (l.drop 65536))=_;by_cases h1:l.length≤65536
 ·have:q=l.length:=by omega
  subst this;rw[List.take_of_length_le h1,List.take_length,List.drop_of_length_le h1,List.drop_length]
 ·have:q=65536:=by omega
  subst this;rfl
theorem zh: ∀ls:List (List UInt8),(aN.zi ls).length=ls.flatten.length+10*ls.length|[]=>rfl|p::ls=>by have e:aN.zi (p::ls)=aN.bZ p++aN.zi ls:=rfl;rw[e,List.length_append,aN.eP,zh ls,List.flatten_cons,List.length_append,List.length_cons];omega
theorem Gc(l:List UInt8):(ji l).length≤l.length:=by
 have key: ∀(f:Nat)(l:List UInt8),(chunks f l).length≤l.length:=fun f=>by
  induction f with
   |zero=>intro l;simp[chunks]
   |succ f ih=>
    intro l;unfold chunks;split;·simp
    ·rename_i h1;have:=List.length_pos_iff.2 h1;have h2:=ih (l.drop 65536);rw[List.length_drop]at h2;simp only[List.length_cons];omega
 exact key _ l
theorem EJ(l:List UInt8):(aD l).length≤11*l.length:=by unfold aD;rw[zh,iq];have:=Gc l;omega
open Go.RowKit
theorem JP(w:World)(B:Nat)(A:Option Addr)(n c:Nat)(l:List UInt8)(h:bU w B A n c l)(hn:n≤1000000):Calls Tryz.prog 96 #[.slice A n c] w fun e w'=>e=.returned (.int .u32 (aN.uk l))∧w=w':=by
 obtain⟨hl,hcap,hmax,hcell⟩:=h;have HL:=qH hl;clear hl;have HC:=qH hcell;clear hcell;clear hmax;go_enter Tryz.func96,Tryz.ntmps96;go_wp2;go_loop[3,4,9](fun t s i=> ∃k:Nat,k≤n∧i=.int .i64 k∧t=.int .u32 (aN.ad (l.take k)).1∧s=.int .u32 (aN.ad (l.take k)).2)(fun _ _ i=>n-(intOf i).toNat);case atStart=>exact⟨0,Nat.zero_le _,rfl,rfl,rfl⟩
 case round=>
  obtain⟨k,hk,rfl,rfl,rfl⟩:=hrel;have hlt:=aN.KC (l.take k);obtain⟨hlt1,hlt2⟩:=hlt;by_cases hkn:k<n
  ·obtain⟨b,off,rfl,hb,hc⟩:=HC.o (by omega);have hk':k<l.length:=by rw[HL.o];exact hkn
   have hc':=hc k hk';have HA:=qH (aN.Kz l k hk');have hb8:(l[k]).toNat<256:=(l[k]).toNat_lt;generalize hx:(l[k]).toNat=x at*;have HX:=qH hx;clear hx hc;generalize h1:(aN.ad (l.take k)).1=p at*;generalize h2:(aN.ad (l.take k)).2=q at*;have H1:=qH h1;have H2:=qH h2;clear h1 h2;go_wp2;go_round;case rel=>
    refine⟨k+1,by omega,by go_num,?_,?_⟩;·rw[HA.o];unfold aN.rR;rw[H1.o,HX.o];go_num
    ·rw[HA.o];unfold aN.rR;rw[H1.o,H2.o,HX.o];go_num
   case measure=>simp[intOf];omega
  ·go_wp2;go_ret;refine⟨aQ ?_,rfl⟩;have hkk:l.take k=l:=List.take_of_length_le (by rw[HL.o];omega);have hz:=aN.KC l;rw[hkk];rw[show(((aN.ad l).2:Int)*65536)=(((aN.ad l).2*65536:Nat):Int)by omega,u32_or_nat _ _ (by omega) (by omega),nat_join16 _ _ (by omega) (by omega)];rfl
theorem sS(w:World)(B:Nat)(A:Option Addr)(n c:Nat)(l:List UInt8)(h:bU w B A n c l)(h3:3≤n):Calls Tryz.prog 157 #[.slice A n c] w fun e w'=>e=.returned (.int .i64 (aN.sz l:Nat))∧ ∃k,w'=w.drewN k:=by
 obtain⟨hl,hcap,hmax,hcell⟩:=h;obtain⟨b,off,rfl,hb,hc⟩:=hcell (by omega);have h0:=hc 0 (by omega);have h1:=hc 1 (by omega);have h2:=hc 2 (by omega);have hx:=(l[0]).toNat_lt;have hy:=(l[1]).toNat_lt;have hz:=(l[2]).toNat_lt;have hs:Hid (aN.sz l=l[0].toNat*65536+l[1].toNat*256+l[2].toNat):=by unfold aN.sz Hid;simp[List.getD,List.getElem?_eq_getElem (show 0<l.length by omega),List.getElem?_eq_getElem (show 1<l.length by omega),List.getElem?_eq_getElem (show 2<l.length by omega)]
 simp only[Nat.add_zero]at h0;generalize l[0]=x at*;generalize l[1]=y at*;generalize l[2]=z at*;have i0:(0:Int)<n:=by omega
 have i1:(1:Int)<n:=by omega
 have i2:(2:Int)<n:=by omega
 have HL:=qH hl;clear hl hc hcell hmax;go_enter Tryz.func157,Tryz.ntmps157;go_wp2;go_quiet(fail);go_wp2;go_ret;refine⟨aQ ?_,_,rfl⟩;rw[hs.out];rw[show((x.toNat:Int)*65536)=((x.toNat*65536:Nat):Int)by omega,show((y.toNat:Int)*256)=((y.toNat*256:Nat):Int)by omega,nU _ _ (by omega) (by omega),nat_join16 _ _ (by omega) (by omega),nU _ _ (by omega) (by omega),nat_join8 _ _ (by omega) (by omega)]
theorem LU(w:World)(B g:Nat)(A:Option Addr)(n c:Nat)(l:List UInt8)(hg:w.cell? ⟨g,0,none⟩=some (.slice A n c))(h:bU w B A n c l):Calls Tryz.prog 155 #[.pointer (some ⟨g,0,none⟩)] w fun e w'=>e=.returned (.bool (aN.kJ l))∧ ∃k,w'=w.drewN k:=by
 obtain⟨hl,hcap,hmax,hcell⟩:=h;unfold maxLen at hmax;have HL:=qH hl;clear hl;have HC:=qH hcell;clear hcell;go_enter Tryz.func155,Tryz.ntmps155;go_wp2;go_loopw[2](fun i w1=> ∃k:Nat,i=.int .i64 k∧3≤k∧k≤6∧Hid (∀j,3≤j→j<k→aN.eO l j=false)∧ ∃q,w1=w.drewN q)(fun i _=>6-(intOf i).toNat);case atStart=>exact⟨3,rfl,by omega,by omega,fun j h1 h2=>by omega,0,rfl⟩
 case round=>
  obtain⟨k,rfl,hk3,hk6,HK,q,rfl⟩:=hrel;by_cases hk:k<6
  ·by_cases hkn:k<n
   ·obtain⟨b,off,rfl,hb,hc⟩:=HC.o (by omega);have hc1:=hc k (by rw[HL.o];exact hkn);have hc2:=hc (k-3) (by rw[HL.o];omega);have hu:Hid (aN.eO l k=(((l[k]'(by rw[HL.o];exact hkn)).toNat:Int)!=255-((l[k-3]'(by rw[HL.o];omega)).toNat:Int))):=aN.DU l k (by rw[HL.o];exact hkn);have hx:=(l[k]'(by rw[HL.o];exact hkn)).toNat_lt;have hy:=(l[k-3]'(by rw[HL.o];omega)).toNat_lt;generalize(l[k]'(by rw[HL.o];exact hkn)).toNat=x at*;generalize(l[k-3]'(by rw[HL.o];omega)).toNat=y at*;have t1:(k:Int)<n:=by omega
    have t2:0≤(k:Int)-3:=by omega
    have t3:(k:Int)-3<n:=by omega
    have t4:((k:Int)-3).toNat=k-3:=by omega
    clear hc;by_cases hxy:((x:Int)!=255-(y:Int))=true;·go_wp2;go_quiet(fail);go_wp2;go_ret;exact⟨ae (aN.K8 l k hk3 hk (by rw[hu.out];exact hxy)).symm,_,World.drewN_drewN ..⟩
    ·have hxy':((x:Int)!=255-(y:Int))=false:=by simpa using hxy
     clear hxy;go_wp2;go_quiet(fail);go_wp2;go_roundw;case rel=>
      refine⟨k+1,by go_num,by omega,by omega,fun j h1 h2=>?_,_,rfl⟩;by_cases e:j=k;·subst e;rw[hu.out];exact hxy'
      ·exact HK.o j h1 (by omega)
     case measure=>simp[intOf];omega
   ·go_wp2;go_ret;exact⟨ae (aN.GX l k HK.o (by rw[HL.o];omega)).symm,q,rfl⟩
  ·go_wp2;go_ret;exact⟨ae (aN.DT l k HK.o (by omega)).symm,q,rfl⟩
theorem LQ(w:World)(B g:Nat)(A:Option Addr)(n c:Nat)(l:List UInt8)(hg:w.cell? ⟨g,0,none⟩=some (.slice A n c))(h:bU w B A n c l):Calls Tryz.prog 156 #[.pointer (some ⟨g,0,none⟩)] w fun e w'=>e=.returned (.bool (aN.long l))∧ ∃k,w'=w.drewN k:=by
 have hmax:=h.max;have hcap:=h.cap;unfold maxLen at hmax;have HH:=qH h;have HL:=qH h.len;clear h;by_cases h3:3≤n;·go_enter Tryz.func156,Tryz.ntmps156;go_wp2_with(go_at_call 157;refine(sS _ _ _ _ _ _ HH.o h3).mono ?_;rintro e w'⟨rfl,kk,rfl⟩);go_ret;refine⟨ae ?_,_,rfl⟩;unfold aN.long;rw[HL.o];simp[h3];omega
 ·go_enter Tryz.func156,Tryz.ntmps156;go_wp2;go_ret;refine⟨ae ?_,0,rfl⟩;unfold aN.long;rw[HL.o];simp[h3]
theorem uQ(w:World)(B g:Nat)(A:Option Addr)(n c:Nat)(l:List UInt8)(hg:w.cell? ⟨g,0,none⟩=some (.slice A n c))(h:bU w B A n c l):Calls Tryz.prog 158 #[.pointer (some ⟨g,0,none⟩)] w fun e w'=>e=.returned (.bool (aN.there l))∧ ∃k,w'=w.drewN k:=by
 have hmax:=h.max;have hcap:=h.cap;unfold maxLen at hmax;have HH:=qH h;have HL:=qH h.len;clear h;have hs:=aN.XJ l;by_cases h3:6≤n
 ·have t:decide ((6:Int)≤(n:Int))=true:=by simpa using(by omega:(6:Int)≤n)
  go_enter Tryz.func158,Tryz.ntmps158;go_wp2;go_quiet((go_at_call 157;exact Calls.quiet_of (sS _ _ _ _ _ _ (HH.o.drewN _) (by omega))));go_wp2;go_ret;refine⟨ae ?_,_,rfl⟩;unfold aN.there;rw[HL.o];simp[h3];omega
 ·have t:decide ((6:Int)≤(n:Int))=false:=by simpa using(by omega:(n:Int)<6)
  go_enter Tryz.func158,Tryz.ntmps158;go_wp2;go_quiet(fail);go_wp2;go_ret;refine⟨ae ?_,_,rfl⟩;unfold aN.there;rw[HL.o];simp[h3]
theorem BA(w:World)(B B':Nat)(A A':Option Addr)(n c n' c':Nat)(l l':List UInt8)(h:bU w B A n c l)(h':bU w B' A' n' c' l'):Calls Tryz.prog 45 #[.slice A n c,.slice A' n' c'] w fun e w'=>e=.returned (.bool (l==l'))∧w=w':=by have e1:=h.str (P:=Tryz.prog) 32 5 9 Tryz.underlying32 Tryz.underlying5 Tryz.underlying9;have e2:=h'.str (P:=Tryz.prog) 32 5 9 Tryz.underlying32 Tryz.underlying5 Tryz.underlying9;clear h h';go_enter Tryz.func45,Tryz.ntmps45;go_wp2;go_ret;exact⟨rfl,rfl⟩
theorem LM(w:World)(B g gt:Nat)(A:Option Addr)(n c:Nat)(l:List UInt8)(ht:w.cell? ⟨gt,0,none⟩=some (.func (.func 158) #[] #[.pointer (some ⟨g,0,none⟩)]))(hg:w.cell? ⟨g,0,none⟩=some (.slice A n c))(h:bU w B A n c l)(hth:aN.there l=false):Calls Tryz.prog 159 #[.pointer (some ⟨gt,0,none⟩),.pointer (some ⟨g,0,none⟩)] w fun e w'=>e=.returned (.bool (aN.wrong l))∧Below w.heap.size w w':=by have HH:=qH h;clear h;have HT:=qH hth;clear hth;have HG:=qH hg;go_enter Tryz.func159,Tryz.ntmps159;go_wp2_with fail;refine(uQ _ _ _ _ _ _ _ HG.o HH.o).mono ?_;rintro e w'⟨rfl,kk,rfl⟩;rw[HT.o];go_wp2;go_ret;exact⟨ae (by simp[aN.wrong,HT.o]),below_drewN (Below.refl _ _) _⟩
theorem LK(w:World)(B g gt:Nat)(A:Option Addr)(n c:Nat)(l:List UInt8)(ht:w.cell? ⟨gt,0,none⟩=some (.func (.func 158) #[] #[.pointer (some ⟨g,0,none⟩)]))(hg:w.cell? ⟨g,0,none⟩=some (.slice A n c))(h:bU w B A n c l)(hth:aN.there l=true)(hB:B≤w.heap.size)(hn:n≤1000000):Calls Tryz.prog 159 #[.pointer (some ⟨gt,0,none⟩),.pointer (some ⟨g,0,none⟩)] w fun e w'=>e=.returned (.bool (aN.wrong l))∧Below w.heap.size w w':=by
 have hw:Hid (aN.wrong l=((l.drop (6+aN.sz l)).take 4 !=aN.be4 (aN.uk (l.take (6+aN.sz l))))):=by simp[Hid,aN.wrong,hth]
 have hsz:6≤l.length∧aN.sz l+10≤l.length:=by simpa[aN.there]using hth
 rw[h.len]at hsz;obtain⟨hs6,hs10⟩:=hsz;have hmax:=h.max;have hcap:=h.cap;have HH:=qH h;clear h;obtain⟨b,off,rfl,hb,_⟩:=HH.o.cell (by omega);have HT:=qH hth;clear hth;have HG:=qH hg;unfold maxLen at hmax;go_enter Tryz.func159,Tryz.ntmps159;go_wp2_with fail;refine(uQ _ _ _ _ _ _ _ HG.o HH.o).mono ?_;rintro e w'⟨rfl,kk,rfl⟩;rw[HT.o];go_wp2_with fail;refine(sS _ _ _ _ _ _ (HH.o.drewN _) (by omega)).mono ?_;rintro e w'⟨rfl,kk,rfl⟩;generalize hz:aN.sz l=z at*;have HZ:=qH hz;clear hz;have hc1:Hid (bU w B (some ⟨b,off,none⟩) (6+z) c (l.take (6+z))):=by have:=HH.o.cut 0 (6+z) (by omega);unfold Hid;simpa using this
 have hc2:=qH (HH.o.cut (6+z) 4 (by omega));have hlt:=aN.CW (l.take (6+z));generalize hs:aN.uk (l.take (6+z))=s at*;have HS:=qH hs;clear hs;go_wp2_with fail;refine(JP _ _ _ _ _ _ (hc1.out.drewN _) (by omega)).mono ?_;rintro e w'⟨rfl,rfl⟩;rw[HS.o];go_wp2_with fail;have hb4:Hid (#[Value.int IntKind.u8 (↑s/16777216),Value.int IntKind.u8 (↑s/65536%256),Value.int IntKind.u8 (↑s/256%256),Value.int IntKind.u8 (↑s%256)]=((aN.be4 s).map fun x=>Value.int .u8 x.toNat).toArray):=by simp[Hid,aN.be4,aN.mP];omega
 refine(BA _ B (w.heap.size+1) _ _ _ _ _ _ _ (aN.be4 s) ((hc2.out.drewN _).alloc hB _) (bU.new (w.drewN _) _ _ _ hb4.out _ rfl (by unfold maxLen aN.be4;simp))).mono ?_;rintro e w'⟨rfl,rfl⟩;go_wp2;go_ret;refine⟨ae ?_,(below_drewN (Below.refl _ _) _).alloc (Nat.le_refl _) _⟩;rw[hw.out];rfl
theorem LP(w:World)(B g gt:Nat)(A:Option Addr)(n c:Nat)(l:List UInt8)(ht:w.cell? ⟨gt,0,none⟩=some (.func (.func 158) #[] #[.pointer (some ⟨g,0,none⟩)]))(hg:w.cell? ⟨g,0,none⟩=some (.slice A n c))(h:bU w B A n c l)(hB:B≤w.heap.size)(hn:n≤1000000):Calls Tryz.prog 159 #[.pointer (some ⟨gt,0,none⟩),.pointer (some ⟨g,0,none⟩)] w fun e w'=>e=.returned (.bool (aN.wrong l))∧Below w.heap.size w w':=by
 cases ht':aN.there l;·exact LM w B g gt A n c l ht hg h ht'
 ·exact LK w B g gt A n c l ht hg h ht' hB hn
end Go.Proofs.YtbejfgmdkmddnaaGreatDoor
