/-
  The laws': whether two intakes' parts are the same.
-/
import Derived.Test.YtbejfgmdkmddnaaGreatDoorQDone2
import Derived.Test.YtbejfgmdkmddnaaGreatDoorQItkOffer
import Derived.Test.YtbejfgmdkmddnaaGreatDoorQOpenDds
import Derived.Test.YtbejfgmdkmddnaaGreatDoorQEven
import Derived.Test.YtbejfgmdkmddnaaGreatDoorQGrLaws
import Derived.Test.YtbejfgmdkmddnaaGreatDoorQSets
import Derived.Test.YtbejfgmdkmddnaaGreatDoorQPnM
import Derived.Test.YtbejfgmdkmddnaaGreatDoorQEvMay
import Derived.Test.YtbejfgmdkmddnaaGreatDoorQOf
import Derived.Test.YtbejfgmdkmddnaaGreatDoorQRClk1
set_option maxRecDepth 100000
set_option maxHeartbeats 16000000
namespace Go.Proofs.YtbejfgmdkmddnaaGreatDoor
open Go.RowKit Go.Maps Go.Sort Go.Shelf
theorem Dds.per{w:World}{B n c:Nat}{A:Option Addr}{ds:List Dd}(h:Dds w B A n c ds)(k:Nat)(hk:k<ds.length): ∃b off,A=some ⟨b,off,none⟩∧b<B∧DdAt w b (off+k*11) ds[k]∧w.cell? ⟨b,off+k*11+10,none⟩=some (.string ⟨ds[k].per.toArray⟩):=by obtain⟨b,off,e,hb,hd⟩:=h.at_ k hk;have hl:=h.len;obtain⟨b',off',e',hb',hc⟩:=Cel.cell h (by omega);rw[e]at e';injection e' with e';injection e' with e1 e2;subst e1 e2;exact⟨b,off,e,hb,hd,by rw[Nat.add_assoc];exact hc _ _ (by rw[ddCells_get ds k 10 hk (by omega)];rfl)⟩
theorem heavy_smallN{ds:List Dd}{m:Nat}(h:heavyB ds m=false):ds.length≤m∧ ∀d∈ds,d.e.small:=by unfold heavyB at h;simp only[Bool.or_eq_false_iff,decide_eq_false_iff_not,List.any_eq_false]at h;refine⟨by omega,fun d hd=>?_⟩;have:=h.2 d hd;unfold bigB at this;simp at this;exact⟨by omega,by omega,by omega,by omega⟩
structure BothN(w:World)(q:Nat)(F:Nat→Prop)(bi bm bc:Nat)(S:Nat→Prop)(N:Nat)(x:Itk)(wr:World):Prop where
 both:Both wr F bi bm bc S N x
 bel:Below w.heap.size w wr
 newF: ∀b,F b→q≤b
 newS: ∀b,S b→q≤b
 bm0:q≤bm
 bc0:q≤bc
 lo:w.heap.size≤q
 hi:q≤wr.heap.size
theorem BothN.up{w wr w2:World}{F S:Nat→Prop}{q bi bm bc N:Nat}{x:Itk}(h:BothN w q F bi bm bc S N x wr)(hb:Below wr.heap.size wr w2):BothN w q F bi bm bc S N x w2:=⟨h.both.up hb,h.bel.trans (hb.mono h.bel.size),h.newF,h.newS,h.bm0,h.bc0,h.lo,Nat.le_trans h.hi hb.size⟩
theorem BothN.more{w wr:World}{F S:Nat→Prop}{q bi bm bc N M:Nat}{x:Itk}(h:BothN w q F bi bm bc S N x wr)(hM:N≤M):BothN w q F bi bm bc S M x wr:=⟨h.both.more hM,h.bel,h.newF,h.newS,h.bm0,h.bc0,h.lo,h.hi⟩
theorem BothN.deed{w wr w2:World}{F S:Nat→Prop}{q bi bm bc N M:Nat}{x y:Itk}(h:BothN w q F bi bm bc S N x wr)(hd:BothD wr F bi bm bc S M y w2): ∃F' S',BothN w q F' bi bm bc S' M y w2:=by
 obtain⟨F',S',hb,hk,hF,hS⟩:=hd;have hs:=h.bel.size;have h1:=h.bm0;have h2:=h.bc0;have h3:=h.lo;have h4:=h.hi;have h5:=hk.size;refine⟨F',S',hb,h.bel.trans (hk.below hs (fun b hb' hf=>?_)),fun b hb'=>?_,fun b hb'=>?_,h1,h2,h3,by omega⟩
 ·rcases hf with hf|hf|hf;·have:=h.newF b hf;omega
  ·omega
  ·omega
 ·rcases hF b hb' with h'|h';·exact h.newF b h'
  ·omega
 ·rcases hS b hb' with h'|h';·exact h.newS b h'
  ·omega
def GrRel(w:World)(slack idle:Int)(ds:List Dd)(bi bm bc:Nat)(i:Value)(wr:World):Prop:= ∃(k:Nat)(F S:Nat→Prop),i=.int .i64 k∧k≤ds.length∧BothN w w.heap.size F bi bm bc S (3*k) (Itk.grown slack idle (ds.take k)) wr
def GrPost(w:World)(N:Nat)(x:Itk)(e:Ending)(w':World):Prop:= ∃F S bi bm bc,e=.returned (.tuple #[.pointer (some ⟨bi,0,none⟩),.pointer (some ⟨bm,0,none⟩),.bool true])∧BothN w w.heap.size F bi bm bc S N x w'
theorem grown_any(w:World)(slack idle:Int)(A:Option Addr)(n c:Nat)(ds:List Dd)(h:Dds w w.heap.size A n c ds)(hn:n≤1000)(hsm: ∀d∈ds,d.e.small)(hkd: ∀d∈ds,0≤d.kind∧d.kind≤255)(hmx:MaxAt w):Calls Tryz.prog 24 #[.int .i64 slack,.int .i64 idle,.slice A n c] w (GrPost w (3*n) (Itk.grown slack idle ds)):=by
 have HH:=qH h;clear h;have HKD:=qH hkd;clear hkd;have HSM:=qH hsm;clear hsm;have HMX:=qH hmx;have hmlt:=hmx.lt;clear hmx;have HL:=qH HH.out.len;go_enter Tryz.func24,Tryz.ntmps24;go_wp2_with fail;refine(itknew_any w slack idle).mono ?_;rintro r w1⟨bi,F1,rfl,hI1,hb1,hF1⟩;have HI1:=qH hI1;have HF1:=qH hF1;clear hI1 hF1;go_wp2_with fail;refine(ritknew_any w1 slack idle).mono ?_;rintro r w2⟨bm,bc,rfl,hR2,hbm,hbc,hb2⟩;have hs1:=hb1.size;have HGO:=qH (show GrRel w slack idle ds bi bm bc (.int .i64 ((0:Nat):Int)) w2 from⟨0,F1,fun _=>False,rfl,Nat.zero_le _,⟨⟨HI1.out.up hb2,hR2,fun b hb=>⟨fun h=>h,fun e=>by have:=HI1.out.low hb;omega,fun e=>by have:=HI1.out.low hb;omega⟩⟩,hb1.trans (hb2.mono hs1),HF1.out,fun _ h=>h.elim,by omega,by omega,Nat.le_refl _,by have:=hb2.size;omega⟩⟩);clear hR2 hb2 hb1 HI1 HF1 hbm hbc hs1;go_wp2;go_loopw[11](fun i wr=>GrRel w slack idle ds bi bm bc i wr)(fun i _=>n-(intOf i).toNat);case atStart=>exact HGO.out
 case round=>
  obtain⟨k,F,S,rfl,hk,hBN⟩:=hrel;have HBN:=qH hBN;clear hBN;have hkL:k≤n:=by rw[←HL.out];exact hk
  by_cases hkn:k<n
  ·have hkl:k<ds.length:=by rw[HL.out];exact hkn
   obtain⟨b,off,rfl,hb,hd,hp⟩:=HH.out.per k hkl;have hbel:=HBN.out.bel;obtain⟨d0,⟨e0,e1,e2,e3,e4,e5,e6,e7⟩,d9⟩:=hd.below hbel hb;have d10:=(hbel.cell (p:=⟨b,off+k*11+10,none⟩) hb).trans hp;have HGR:=qH (grown_take slack idle ds k hkl);have HS:=qH (HSM.out _ (List.getElem_mem hkl));have hkk:=HKD.out _ (List.getElem_mem hkl);generalize ds[k]=d at*;have t1:(k:Int)<n:=by omega
   have HDA:=qH (show d.agg=.agg #[.int .u8 d.kind,.string ⟨d.e.src.toArray⟩,.int .i64 d.e.num,.int .i64 d.e.at_,.int .i64 d.e.kind,.string ⟨d.e.per.toArray⟩,.string ⟨d.e.item.toArray⟩,.int .i64 d.e.val,.string ⟨d.e.text.toArray⟩,.int .i64 d.now,.string ⟨d.per.toArray⟩]from rfl);have HD:=qH (done_any wr F bi bm bc S (3*k) _ HBN.out.both (by omega) d HS.out hkk.1 hkk.2 (HMX.out.up hbel) (fun hf=>by have:=HBN.out.newF _ hf;omega) (by have:=HBN.out.bm0;omega) (by have:=HBN.out.bc0;omega));rw[HDA.out]at HD;clear hd hp;go_wp2_with fail;(with_reducible refine HD.out.mono ?_);rintro r w4⟨rfl,hd4⟩;obtain⟨F4,S4,hB4⟩:=HBN.out.deed hd4;have HB4:=qH (show BothN w w.heap.size F4 bi bm bc S4 (3*(k+1)) (Itk.grown slack idle (ds.take (k+1))) w4 by rw[HGR.out];exact hB4);clear hd4 hB4 d0 e0 e1 e2 e3 e4 e5 e6 e7 d9 d10 HD HDA HGR;go_wp2_with fail;refine(even_any w4 F4 bi bm bc S4 _ _ ⟨HB4.out.both.itk,HB4.out.both.ref⟩ (by omega)).mono ?_;rintro r w5⟨rfl,hb5⟩;have HR:=qH (show GrRel w slack idle ds bi bm bc (.int .i64 ((k+1:Nat):Int)) w5 from⟨k+1,F4,S4,rfl,by omega,HB4.out.up hb5⟩);clear hb5;go_wp2;go_roundw;case rel=>exact HR.out
   case measure=>simp[intOf];omega
  ·have t1: ¬(k:Int)<n:=by omega
   have HF:=qH (show GrPost w (3*n) (Itk.grown slack idle ds) (.returned (.tuple #[.pointer (some ⟨bi,0,none⟩),.pointer (some ⟨bm,0,none⟩),.bool true])) wr from⟨F,S,bi,bm,bc,rfl,by have:=HBN.out;rw[List.take_of_length_le (by rw[HL.out];omega)]at this;exact this.more (by omega)⟩);go_wp2;exact bodyPost_ret (v:=.tuple #[.pointer (some ⟨bi,0,none⟩),.pointer (some ⟨bm,0,none⟩),.bool true]) (by simp[results,Tryz.results24,go_sem]) rfl HF.out
def lvE(n at_:Int):Ev:=⟨[97],n,at_,14,[112],[],0,[]⟩
def lv0:Itk:=Itk.new 0 0
def lv1:Itk:=lv0.offer (lvE 1 5) 0
def lv2:Itk:=lv1.offer (lvE 2 4) 0
theorem lv_a:lv0.offered (lvE 1 5) 0=0:=by decide+kernel
theorem lv_b:lv1.clk.mark=4:=by decide+kernel
theorem lv_c:lv1.offered (lvE 2 4) 0=2:=by decide+kernel
theorem lv_d:lv2.offered (lvE 1 9) 0=1:=by decide+kernel
theorem lv_small(n at_:Int):(lvE n at_).small:=⟨by simp[lvE],by simp[lvE],by simp[lvE],by simp[lvE]⟩
theorem lvof_any(w:World)(n at_:Int):Calls Tryz.prog 55 #[.int .i64 n,.int .i64 at_] w fun r w'=>r=.returned (lvE n at_).agg∧Below w.heap.size w w':=by have HA:=qH (show(lvE n at_).agg=.agg #[.string ⟨#[97]⟩,.int .i64 n,.int .i64 at_,.int .i64 14,.string ⟨#[112]⟩,.string ⟨#[]⟩,.int .i64 0,.string ⟨#[]⟩]from rfl);go_enter Tryz.func55,Tryz.ntmps55;go_wp2;exact bodyPost_ret (v:=.agg #[.string ⟨#[97]⟩,.int .i64 n,.int .i64 at_,.int .i64 14,.string ⟨#[112]⟩,.string ⟨#[]⟩,.int .i64 0,.string ⟨#[]⟩]) (by simp[results,Tryz.results55,go_sem]) rfl ⟨by rw[HA.out],(Below.refl _ _).alloc (Nat.le_refl _) _⟩
theorem lives_any(w:World)(hmx:MaxAt w):Calls Tryz.prog 21 #[] w (Says true w):=by have HMX:=qH hmx;have hmlt:=hmx.lt;clear hmx;go_enter Tryz.func21,Tryz.ntmps21;go_wp2_with fail;refine(itknew_any w 0 0).mono ?_;rintro r w1⟨bi,F1,rfl,hI1,hb1,hF1⟩;have HI1:=qH (show ItkAt w1 F1 bi 0 lv0 from hI1);have HF1:=qH hF1;have hs1:=hb1.size;have HMX1:=qH (HMX.out.up hb1);clear hI1 hF1;go_wp2_with fail;refine(lvof_any w1 1 5).mono ?_;rintro r w2⟨rfl,hb2⟩;have hbw2:Below w.heap.size w w2:=hb1.trans (hb2.mono hs1);have HI2:=qH (HI1.out.up hb2);have HMX2:=qH (HMX1.out.up hb2);have hs2:=hb2.size;clear hb2 hb1;go_wp2_with fail;refine(offer_any w2 F1 bi 0 lv0 HI2.out (by omega) (lvE 1 5) (lv_small _ _) 0 HMX2.out (fun hf=>by have:=HF1.out _ hf;omega)).mono ?_;rintro r w3⟨rfl,F3,hI3,hK3,hF3⟩;rw[lv_a];have HI3:=qH (show ItkAt w3 F3 bi 2 lv1 from hI3);have HF3:=qH (show∀b,F3 b→w.heap.size≤b from fun b hb=>(hF3 b hb).elim (HF1.out b) (fun h=>by omega));have hbw3:Below w.heap.size w w3:=hbw2.trans (hK3.below hbw2.size (fun b hb hf=>by have:=HF1.out b hf;omega));have HMX3:=qH (HMX2.out.out hK3 (fun hf=>by have:=HF1.out _ hf;omega));clear hI3 hK3 hF3;go_wp2_with fail;refine(imark_any w3 F3 bi 2 lv1 HI3.out).mono ?_;rintro r w3'⟨rfl,rfl⟩;rw[lv_b];go_wp2_with fail;refine(lvof_any w3 2 4).mono ?_;rintro r w4⟨rfl,hb4⟩;have hbw4:Below w.heap.size w w4:=hbw3.trans (hb4.mono hbw3.size);have HI4:=qH (HI3.out.up hb4);have HMX4:=qH (HMX3.out.up hb4);clear hb4;go_wp2_with fail;refine(offer_any w4 F3 bi 2 lv1 HI4.out (by omega) (lvE 2 4) (lv_small _ _) 0 HMX4.out (fun hf=>by have:=HF3.out _ hf;omega)).mono ?_;rintro r w5⟨rfl,F5,hI5,hK5,hF5⟩;rw[lv_c];have HI5:=qH (show ItkAt w5 F5 bi 4 lv2 from hI5);have HF5:=qH (show∀b,F5 b→w.heap.size≤b from fun b hb=>(hF5 b hb).elim (HF3.out b) (fun h=>by have:=hbw4.size;omega));have hbw5:Below w.heap.size w w5:=hbw4.trans (hK5.below hbw4.size (fun b hb hf=>by have:=HF3.out b hf;omega));have HMX5:=qH (HMX4.out.out hK5 (fun hf=>by have:=HF3.out _ hf;omega));clear hI5 hK5 hF5;go_wp2_with fail;refine(lvof_any w5 1 9).mono ?_;rintro r w6⟨rfl,hb6⟩;have hbw6:Below w.heap.size w w6:=hbw5.trans (hb6.mono hbw5.size);have HI6:=qH (HI5.out.up hb6);have HMX6:=qH (HMX5.out.up hb6);clear hb6;go_wp2_with fail;refine(offer_any w6 F5 bi 4 lv2 HI6.out (by omega) (lvE 1 9) (lv_small _ _) 0 HMX6.out (fun hf=>by have:=HF5.out _ hf;omega)).mono ?_;rintro r w7⟨rfl,F7,hI7,hK7,hF7⟩;rw[lv_d];have hbw7:Below w.heap.size w w7:=hbw6.trans (hK7.below hbw6.size (fun b hb hf=>by have:=HF5.out b hf;omega));clear hI7 hK7 hF7;go_wp2;go_ret;exact⟨rfl,hbw7⟩
theorem nameB_len{l:List UInt8}(h:nameB l=true):1≤l.length∧l.length≤24:=by unfold nameB at h;simp only[Bool.and_eq_true,decide_eq_true_eq]at h;exact⟨h.1.1,h.1.2⟩
theorem splitB_len(c:UInt8): ∀(k:Nat)(s:ByteArray),(∀t∈Lib.splitB ⟨#[c]⟩ 0 k s,t.size≤24)→s.size+1≤25*(Lib.splitB ⟨#[c]⟩ 0 k s).length
 |0,s,h=>by rw[Lib.splitB_zero]at h⊢;have:=h s (by simp);simp;omega
 |k+1,s,h=>by
  rcases Lib.indexB_cases s ⟨#[c]⟩with hi|⟨i,hi,hle⟩;·rw[Lib.splitB_miss _ _ _ _ hi]at h⊢;have:=h s (by simp);simp;omega
  ·rw[Lib.splitB_hit _ _ _ _ _ hi]at h⊢;have h1:=h _ (List.mem_cons_self ..);have ih:=splitB_len c k (s.extract (i+(⟨#[c]⟩:ByteArray).size) s.size) (fun t ht=>h t (List.mem_cons_of_mem _ ht));have hc:(⟨#[c]⟩:ByteArray).size=1:=rfl;rw[hc]at hle ih h⊢;simp only[ByteArray.size_extract,List.length_cons]at h1 ih⊢;omega
theorem listing_len{s:List UInt8}(h:listingB s=true):s.length≤224:=by
 unfold listingB at h;simp only[Bool.and_eq_true,decide_eq_true_eq]at h;obtain⟨⟨⟨h1,h2⟩,h3⟩,h4⟩:=h;have hm:=(nameB_len h2).2;unfold Lib.cut at h1 hm;by_cases hi:0≤Lib.index s [59]
 ·rw[if_pos hi]at hm;change(s.take _).length≤24 at hm;have hlen:s.length≤(s.take (Lib.index s [59]).toNat).length+1+(restL s).length:=by unfold restL Lib.cut;rw[if_pos hi];simp;omega
  have hr:(restL s).length≤199:=by
   unfold tagsL at h3 h4;by_cases he:(restL s).isEmpty;·rw[List.isEmpty_iff.1 he];simp
   ·rw[if_neg he]at h3 h4;have key:=splitB_len 44 (Lib.countB ⟨(restL s).toArray⟩ ⟨#[44]⟩) ⟨(restL s).toArray⟩ (fun t ht=>by
     obtain⟨k,hk,e⟩:=List.getElem_of_mem ht;unfold tagsB at h4;rw[List.all_eq_true]at h4;have:=h4 k (by simpa using hk);unfold tagB at this;have h5:nameB ((List.map (fun b:ByteArray=>b.data.toList) (Lib.splitB ⟨#[44]⟩ 0 (Lib.countB ⟨(restL s).toArray⟩ ⟨#[44]⟩) ⟨(restL s).toArray⟩)).getD k [])=true:=by simp only[Bool.and_eq_true]at this;exact this.1
     have h6:=(nameB_len h5).2;simp only[List.getD,List.getElem?_map,List.getElem?_eq_getElem hk,Option.map_some,Option.getD_some,e]at h6;show t.data.size≤24;rw[←Array.length_toList];exact h6);have hs:(⟨(restL s).toArray⟩:ByteArray).size=(restL s).length:=by simp[ByteArray.size]
    rw[hs]at key;simp only[List.length_map]at h3;omega
  omega
 ·rw[if_neg hi]at h1;simp at h1
structure Ev.Fit(e:Ev):Prop where
 src:e.src.length≤24
 per:e.per.length≤24
 item:e.item.length≤24
 text:e.text.length≤224
 num0:1≤e.num
 num1:e.num≤1099511627776
 at0:0≤e.at_
 at1:e.at_≤1099511627776
 val0:0≤e.val
 val1:e.val≤1048576
 kind0:0≤e.kind
 kind1:e.kind≤14
theorem mayB_fit{e:Ev}(h:mayB e=true):e.Fit:=by
 unfold mayB at h;rw[Bool.and_eq_true]at h;obtain⟨hh,ht⟩:=h;unfold headB at hh;simp only[Bool.and_eq_true,decide_eq_true_eq]at hh;obtain⟨⟨⟨⟨a1,a2⟩,a3⟩,a4⟩,a5⟩:=hh;have hs:=(nameB_len a1).2;have key:e.per.length≤24∧e.item.length≤24∧e.text.length≤224∧0≤e.val∧e.val≤1048576∧0≤e.kind∧e.kind≤14:=by
  unfold tailB at ht;have hk:e.kind=0∨e.kind=1∨e.kind=2∨e.kind=3∨e.kind=4∨e.kind=5∨e.kind=6∨e.kind=7∨e.kind=8∨e.kind=9∨e.kind=10∨e.kind=11∨e.kind=12∨e.kind=13∨e.kind=14∨ ¬(0≤e.kind∧e.kind≤14):=by omega
  have n1:=fun h:nameB e.per=true=>(nameB_len h).2;have n2:=fun h:nameB e.item=true=>(nameB_len h).2;have n3:=fun h:nameB e.text=true=>(nameB_len h).2;have n4:=fun h:listingB e.text=true=>listing_len h;rcases hk with k|k|k|k|k|k|k|k|k|k|k|k|k|k|k|k;case inr.inr.inr.inr.inr.inr.inr.inr.inr.inr.inr.inr.inr.inr.inr=>rw[if_neg (by omega),if_neg (by omega),if_neg (by omega),if_neg (by omega),if_neg (by omega),if_neg (by omega),if_neg (by omega),if_neg (by omega),if_neg (by omega),if_neg (by omega),if_neg (by omega),if_neg (by omega),if_neg (by omega),if_neg (by omega),if_neg (by omega)]at ht;cases ht
  all_goals(simp[k]at ht;simp only[ht,forall_const,List.length_nil]at n1 n2 n3 n4;simp only[ht,k,List.length_nil];first|omega|(simp;omega)|(simp_all;omega))
 exact⟨hs,key.1,key.2.1,key.2.2.1,a2,a3,a4,a5,key.2.2.2.1,key.2.2.2.2.1,key.2.2.2.2.2.1,key.2.2.2.2.2.2⟩
theorem mayB_smallO{e:Ev}(h:mayB e=true):e.small:=by have:=mayB_fit h;exact⟨by have:=this.src;omega,by have:=this.per;omega,by have:=this.item;omega,by have:=this.text;omega⟩
theorem rising_lenO{r ks:List (List UInt8)}(h:Rising r ks):r.length≤ks.length:=by
 have hnd:r.Nodup:=List.pairwise_iff_getElem.2 fun i j hi hj hij e=>by have:=List.pairwise_iff_getElem.1 h.1 i j hi hj hij;rw[e]at this;exact lt_irr _ this
 have key: ∀(r ks:List (List UInt8)),r.Nodup→(∀x,x∈r→x∈ks)→r.length≤ks.length:=by intro r;induction r with|nil=>intro ks _ _;simp|cons a l ih=>intro ks hnd hsub;have hnd':=List.nodup_cons.1 hnd;have ha:a∈ks:=hsub a List.mem_cons_self;have:=ih (ks.erase a) hnd'.2 (fun x hx=>by have hxa:x≠a:=fun e=>hnd'.1 (by rw[←e];exact hx);exact(List.mem_erase_of_ne hxa).2 (hsub x (List.mem_cons_of_mem _ hx)));rw[List.length_erase_of_mem ha]at this;have:=List.length_pos_of_mem ha;simp only[List.length_cons];omega
 exact key r ks hnd fun x hx=>(h.2 x).1 hx
structure PtGood(N:Nat)(x:Itk):Prop where
 play:PlayInv x
 pt:PtInv x
 clk:ClkOk x.clk
 ok:ItkOk N x
 gone:x.gone.length≤N
theorem PtGood.encC_len{N:Nat}{x:Itk}(h:PtGood N x):(encC x.clk).length≤100+69*N:=by have h1:=h.clk;have h2:=srcB_len h1 x.clk.src.length;rw[List.take_length]at h2;have h3:=h.ok.src;have k1:=h1.slack;have k2:=h1.idle;have k3:=h1.now;have k4:=h1.mark;have h4:=lineB_len [99,108,111,99,107] [x.clk.slack,x.clk.idle,x.clk.now,x.clk.mark] (by intro v hv;simp at hv;rcases hv with rfl|rfl|rfl|rfl<;>omega);simp only[List.length_cons,List.length_nil]at h4;unfold encC;rw[List.length_append];omega
theorem PtGood.encH_len{N:Nat}{x:Itk}(h:PtGood N x)(hN:N≤600):(encH x.had).length≤1000000000:=by have h1:=numB_short (n:=x.had.length) (by have:=h.ok.had;omega);have h2:=flat_len h.play.ok (fun p hp=>Nat.le_trans (h.ok.hadrow h.play.ok p hp) (by omega)) x.had.length;rw[List.take_length]at h2;have h3:=h.ok.had;unfold encH;rw[List.length_append];omega
theorem PtGood.dc{N:Nat}{x:Itk}(h:PtGood N x):decC (encC x.clk)=some x.clk:=decC_enc h.clk h.play.risen
theorem PtGood.dh{N:Nat}{x:Itk}(h:PtGood N x)(hN:N≤600):decH (encH x.had)=.ok x.had []:=decH_enc h.play.ok (by have:=h.ok.had;omega) (fun p hp=>by have:=h.ok.hadrow h.play.ok p hp;omega)
theorem PtGood.bd{N:Nat}{x:Itk}(h:PtGood N x)(hN:N≤600):PtBd N (encC x.clk) (encH x.had):=⟨fun c hc=>by rw[h.dc]at hc;injection hc with hc;subst hc;exact h.ok.src,fun m r hm=>by rw[h.dh hN]at hm;injection hm with hm _;subst hm;exact⟨h.ok.had,h.ok.hadrow h.play.ok⟩⟩
theorem PtGood.parts{N:Nat}{x:Itk}(h:PtGood N x)(hN:N≤600){r:List (List UInt8)}(hr:Rising r x.gone):PartsOk x.clk.slack x.clk.idle (encC x.clk) (encH x.had) r x.taken x.late x.clk x.had:=⟨h.dc,⟨[],h.dh hN⟩,rfl,rfl,gone_ok h.pt hr,(h.play.right h.pt (by have:=h.ok.taken;omega)).congr fun p=>(hr.2 p).symm⟩
theorem ItkAt.congrG{w:World}{F:Nat→Prop}{bi N:Nat}{x:Itk}{g:List (List UInt8)}(h:ItkAt w F bi N {x with gone:=g})(hg: ∀p,p∈g↔p∈x.gone):ItkAt w F bi N x:=by obtain⟨A,hM,hO,h3,h4,h5,h6⟩:=h;exact⟨A,⟨hM.blk,hM.clk,hM.had,hM.taken,hM.late,hM.lates,hM.gone.congr hg,hM.ml,hM.mg,hM.lg,hM.gm,hM.gl,hM.gg,hM.tl⟩,⟨hO.sorted,hO.may,hO.src,hO.had,hO.rows,hO.taken,hO.late⟩,h3,h4,h5,h6⟩
def AgainPost(w:World)(N:Nat)(x:Itk)(e:Ending)(w':World):Prop:= ∃bi F,e=.returned (.tuple #[.pointer (some ⟨bi,0,none⟩),.int .i64 0])∧ItkAt w' F bi N x∧RowKit.Below w.heap.size w w'∧ ∀b,F b→w.heap.size≤b
theorem again_of{w:World}{B N:Nat}{x:Itk}(hx:PtGood N x)(hN:N≤600){vc vh vt vl vg:Value}{r:List (List UInt8)}(hV:PtsV w B x vc vh vt vl vg r)(hm:MaxAt w)(he:ErrsAt w)(ht:Lib.TabBelow Tryz.prog w.heap.size w "internal/strconv.uint64pow10" .u64 Lib.pow10Tab):Calls Tryz.prog 25 #[ptsAgg x.clk.slack x.clk.idle vc vh vt vl vg] w (AgainPost w N x):=by
 obtain⟨Ac,kc,rfl⟩:=hV.clk.form;obtain⟨Ah,kh,rfl⟩:=hV.had.form;obtain⟨At,kt,rfl⟩:=ownsRow_form hV.taken;obtain⟨Al,kl,rfl⟩:=ownsRow_form hV.late;obtain⟨Ag,kg,rfl⟩:=ownsRow_form hV.gone;have hr:=rising_lenO hV.rise;have hlc:=hx.encC_len;refine(of_any w N Ac Ah At Al Ag _ kc _ kh _ kt _ kl _ kg x.clk.slack x.clk.idle (encC x.clk) (encH x.had) x.taken x.late r {clk:=hV.clk.byt,had:=hV.had.byt,tk:=Cel.of_own hV.taken,le:=Cel.of_own hV.late,gn:=Cel.of_own hV.gone,hnc:=by omega,hnh:=hx.encH_len hN,hnt:=hx.ok.taken,hnl:=hx.ok.late,hng:=by have:=hx.gone;omega,hN:=by omega,st:=fun e he=>mayB_smallO (hx.ok.may e (.inl he)),sl:=fun e he=>mayB_smallO (hx.ok.may e (.inr he)),max:=hm,errs:=he,tab:=ht,bd:=hx.bd hN}).mono ?_;rintro e w'⟨hb,⟨c,m,bi,F,hp,rfl,hi,hF⟩|⟨er,rfl,h1,h2⟩⟩
 ·have e1:c=x.clk:=by have:=hp.dc;rw[hx.dc]at this;injection this with this;exact this.symm
  have e2:m=x.had:=by obtain⟨q,hq⟩:=hp.dh;rw[hx.dh hN]at hq;injection hq with hq _;exact hq.symm
  subst e1 e2;exact⟨bi,F,rfl,ItkAt.congrG hi hV.rise.2,hb,hF⟩
 ·exact absurd (hx.parts hN hV.rise) (h2 _ _)
theorem took_gone(x:Itk)(e:Ev):(x.took e).gone.length≤x.gone.length+1:=by
 unfold Itk.took;split;·show(e.per::x.gone).length≤_;simp
 ·exact Nat.le_succ _
theorem deed_gone(x:Itk)(d:Dd):(x.deed d).gone.length≤x.gone.length+1:=by
 unfold Itk.deed;split
 ·unfold Itk.offer;split;·exact Nat.le_succ _
  ·split;·exact took_gone _ _
   ·unfold Itk.lates;split;·exact Nat.le_succ _
    ·exact Nat.le_succ _
 split
 ·unfold Itk.admits;split;·exact Nat.le_succ _
  ·exact took_gone _ _
 split;·exact Nat.le_succ _
 split;·exact Nat.le_succ _
 ·exact Nat.le_succ _
def deeds(x:Itk)(ds:List Dd):Itk:=ds.foldl Itk.deed x
theorem deeds_take(x:Itk)(ds:List Dd)(k:Nat)(hk:k<ds.length):deeds x (ds.take (k+1))=(deeds x (ds.take k)).deed ds[k]:=by unfold deeds;rw[List.take_add_one,List.getElem?_eq_getElem hk,Option.toList_some,List.foldl_append];rfl
theorem grown_gone(slack idle:Int)(ds:List Dd):(Itk.grown slack idle ds).gone.length≤ds.length:=by
 have key: ∀(ds:List Dd)(x:Itk),(ds.foldl Itk.deed x).gone.length≤x.gone.length+ds.length:=fun ds=>by induction ds with|nil=>exact fun x=>Nat.le_refl _|cons d ds ih=>intro x;have h1:=ih (x.deed d);have h2:=deed_gone x d;simp only[List.foldl_cons,List.length_cons];omega
 have:=key ds (Itk.new slack idle);have h0:(Itk.new slack idle).gone.length=0:=rfl;unfold Itk.grown;omega
theorem PtGood.grown{w:World}{F:Nat→Prop}{bi N:Nat}{slack idle:Int}{ds:List Dd}(h:ItkAt w F bi N (Itk.grown slack idle ds))(hl:ds.length≤N):PtGood N (Itk.grown slack idle ds):=by obtain⟨A,hM,hO,_⟩:=h;exact⟨PlayInv.grown slack idle ds,PtInv.grown slack idle ds,hM.clk.ok,hO,Nat.le_trans (grown_gone slack idle ds) hl⟩
def IpRel(w0 w9:World)(Fy S:Nat→Prop)(by_ bm bc:Nat)(x:Itk)(ms:List Dd)(i:Value)(wr:World):Prop:= ∃(k:Nat)(F' S':Nat→Prop),i=.int .i64 k∧k≤ms.length∧Both wr F' by_ bm bc S' (60+3*k) (deeds x (ms.take k))∧Keep (fun b=>Fy b∨b=bm∨b=bc) w9 wr∧(∀b,F' b→Fy b∨w9.heap.size≤b)∧(∀b,S' b→S b∨w9.heap.size≤b)∧Below w0.heap.size w0 wr
theorem IpRel.up{w0 w9 wr W:World}{Fy S:Nat→Prop}{by_ bm bc:Nat}{x:Itk}{ms:List Dd}{i:Value}(h:IpRel w0 w9 Fy S by_ bm bc x ms i wr)(hb:Below wr.heap.size wr W):IpRel w0 w9 Fy S by_ bm bc x ms i W:=by obtain⟨k,F',S',h1,h2,h3,h4,h5,h6,h7⟩:=h;exact⟨k,F',S',h1,h2,h3.up hb,h4.trans (Keep.of_below hb) (fun _ _ h=>h),h5,h6,h7.trans (hb.mono h7.size)⟩
def GnRel(l:List Ev)(w:World)(g i:Value)(wz:World):Prop:= ∃k:Nat,i=.int .i64 k∧k≤l.length∧g=.bool ((l.take k).any (fun e=>e.kind==14))∧wz=w
section
variable{a b:Int}{lc lh:List UInt8}{gs:List (List UInt8)}{ts ls:List Ev}{c:Clk}{m:Had}{e:Ev}
theorem right_take{gone:List (List UInt8)}{had:Had}{ts ls:List Ev}(h:RightOk gone had (ts++[e]) ls):mayB e=true∧hadB had e.src e.num=true∧idOf e∉ts.map idOf:=by have h1:=h.taken ts.length (by simp);rw[List.getElem_append_right (Nat.le_refl _)]at h1;simp only[Nat.sub_self,List.getElem_singleton]at h1;unfold tkB at h1;simp only[Bool.and_eq_true]at h1;refine⟨h1.1.1.1.1.1,h1.1.1.2,?_⟩;have h2:=h1.1.1.1.1.2;rw[List.take_left' rfl]at h2;simpa using h2
theorem right_late{gone:List (List UInt8)}{had:Had}{ts ls:List Ev}(h:RightOk gone had ts (ls++[e])):mayB e=true∧idOf e∉ls.map idOf:=by have h1:=h.late ls.length (by simp);rw[List.getElem_append_right (Nat.le_refl _)]at h1;simp only[Nat.sub_self,List.getElem_singleton]at h1;unfold ltB at h1;simp only[Bool.and_eq_true]at h1;refine⟨h1.1.1,?_⟩;have h2:=h1.1.2;rw[List.take_left' rfl]at h2;simpa using h2
theorem right_gone{had:Had}{ts ls:List Ev}(h:RightOk [] had ts ls): ∀e∈ts,e.kind≠14:=fun e he hk=>by obtain⟨i,hi,rfl⟩:=List.getElem_of_mem he;have h1:=h.taken i hi;unfold tkB at h1;simp[hk]at h1
theorem odd_taken(hw:mayB e=false∨hadB m e.src e.num=false): ¬PartsOk a b lc lh gs (ts++[e]) ls c m:=fun h=>by have:=right_take h.right;rcases hw with hw|hw<;>simp[hw]at this
theorem odd_twice(he:e∈ts): ¬PartsOk a b lc lh gs (ts++[e]) ls c m:=fun h=>(right_take h.right).2.2 (List.mem_map_of_mem he)
theorem odd_late(hw:mayB e=false): ¬PartsOk a b lc lh gs ts (ls++[e]) c m:=fun h=>by have:=right_late h.right;simp[hw]at this
theorem odd_late2(he:e∈ls): ¬PartsOk a b lc lh gs ts (ls++[e]) c m:=fun h=>(right_late h.right).2 (List.mem_map_of_mem he)
theorem odd_gone{l:List (List UInt8)}: ¬PartsOk a b lc lh (l++[[],[]]) ts ls c m:=fun h=>by have h1:=h.gone.name l.length (by simp);rw[List.getElem_append_right (Nat.le_refl _)]at h1;simp[nameB]at h1
theorem odd_nil(he:e∈ts)(hk:e.kind=14): ¬PartsOk a b lc lh [] ts ls c m:=fun h=>right_gone h.right e he hk
end
structure QV(w:World)(B:Nat)(vc vh vt vl vg:Value)(lc lh:List UInt8)(ts ls:List Ev)(gs:List (List UInt8)):Prop where
 clk:OwnB w B vc lc
 had:OwnB w B vh lh
 taken:OwnE w B vt ts
 late:OwnE w B vl ls
 gone:w.ownsRow B 9 1 vg gs.length (gs.map encStr)
 ap1: ∀b,vc.ownBlock=some b→vh.ownBlock≠some b
 ap2: ∀b,vt.ownBlock=some b→vl.ownBlock≠some b
section
variable{w w':World}{B:Nat}{vc vh vt vl vg v':Value}{lc lh l':List UInt8}{ts ls es':List Ev}{gs gs':List (List UInt8)}
theorem PtsV.q{x:Itk}{r:List (List UInt8)}(h:PtsV w B x vc vh vt vl vg r):QV w B vc vh vt vl vg (encC x.clk) (encH x.had) x.taken x.late r:=⟨h.clk,h.had,h.taken,h.late,h.gone,h.ap1,h.ap2⟩
theorem QV.up(h:QV w B vc vh vt vl vg lc lh ts ls gs)(hb:RowKit.Below w.heap.size w w'):QV w' B vc vh vt vl vg lc lh ts ls gs:=⟨ownsRow_below h.clk hb (Nat.le_refl _),ownsRow_below h.had hb (Nat.le_refl _),ownsRow_below h.taken hb (Nat.le_refl _),ownsRow_below h.late hb (Nat.le_refl _),ownsRow_below h.gone hb (Nat.le_refl _),h.ap1,h.ap2⟩
theorem own_ne{e1 e2:TypeId}{n1 n2 s1 s2:Nat}{v1 v2:Value}{x1 x2:List Value}(h1:w.ownsRow B e1 s1 v1 n1 x1)(h2:w.ownsRow B e2 s2 v2 n2 x2)(hne:e1≠e2): ∀b,v1.ownBlock=some b→some b≠v2.ownBlock:=fun b h1' h2'=>by obtain⟨c1,k1⟩:=ownsRow_typ h1 h1';obtain⟨c2,k2⟩:=ownsRow_typ h2 h2'.symm;rw[k1]at k2;injection k2 with k2;injection k2 with _ k2;exact hne k2
theorem own_grow{e1:TypeId}{n1 s1:Nat}{v1 v2:Value}{x1:List Value}(h1:w.ownsRow B e1 s1 v1 n1 x1)(hg:w.grownBy w' v2.ownBlock)(hne: ∀b,v1.ownBlock=some b→some b≠v2.ownBlock):w'.ownsRow B e1 s1 v1 n1 x1:=ownsRow_keep h1 fun b hb=>hg.block b (World.ownsRow.lt h1 b hb).2 (hne b hb)
theorem QV.growC(h:QV w B vc vh vt vl vg lc lh ts ls gs)(ho:OwnB w' B v' l')(hg:w.grownBy w' vc.ownBlock)(hv:v'.ownBlock=vc.ownBlock∨v'.ownBlock=some w.heap.size):QV w' B v' vh vt vl vg l' lh ts ls gs:=⟨ho,own_grow h.had hg (fun b h1 h2=>h.ap1 b h2.symm h1),own_grow h.taken hg (own_ne h.taken h.clk (by decide)),own_grow h.late hg (own_ne h.late h.clk (by decide)),own_grow h.gone hg (own_ne h.gone h.clk (by decide)),fun b h1 h2=>by
 rcases hv with e|e;·exact h.ap1 b (e▸h1) h2
 ·rw[e]at h1;injection h1 with h1;have:=(World.ownsRow.lt h.had b h2).2;omega,h.ap2⟩
theorem QV.growH(h:QV w B vc vh vt vl vg lc lh ts ls gs)(ho:OwnB w' B v' l')(hg:w.grownBy w' vh.ownBlock)(hv:v'.ownBlock=vh.ownBlock∨v'.ownBlock=some w.heap.size):QV w' B vc v' vt vl vg lc l' ts ls gs:=⟨own_grow h.clk hg (fun b h1 h2=>h.ap1 b h1 h2.symm),ho,own_grow h.taken hg (own_ne h.taken h.had (by decide)),own_grow h.late hg (own_ne h.late h.had (by decide)),own_grow h.gone hg (own_ne h.gone h.had (by decide)),fun b h1 h2=>by
 rcases hv with e|e;·exact h.ap1 b h1 (e▸h2)
 ·rw[e]at h2;injection h2 with h2;have:=(World.ownsRow.lt h.clk b h1).2;omega,h.ap2⟩
theorem QV.growT(h:QV w B vc vh vt vl vg lc lh ts ls gs)(ho:OwnE w' B v' es')(hg:w.grownBy w' vt.ownBlock)(hv:v'.ownBlock=vt.ownBlock∨v'.ownBlock=some w.heap.size):QV w' B vc vh v' vl vg lc lh es' ls gs:=⟨own_grow h.clk hg (own_ne h.clk h.taken (by decide)),own_grow h.had hg (own_ne h.had h.taken (by decide)),ho,own_grow h.late hg (fun b h1 h2=>h.ap2 b h2.symm h1),own_grow h.gone hg (own_ne h.gone h.taken (by decide)),h.ap1,fun b h1 h2=>by
 rcases hv with e|e;·exact h.ap2 b (e▸h1) h2
 ·rw[e]at h1;injection h1 with h1;have:=(World.ownsRow.lt h.late b h2).2;omega⟩
theorem QV.growL(h:QV w B vc vh vt vl vg lc lh ts ls gs)(ho:OwnE w' B v' es')(hg:w.grownBy w' vl.ownBlock)(hv:v'.ownBlock=vl.ownBlock∨v'.ownBlock=some w.heap.size):QV w' B vc vh vt v' vg lc lh ts es' gs:=⟨own_grow h.clk hg (own_ne h.clk h.late (by decide)),own_grow h.had hg (own_ne h.had h.late (by decide)),own_grow h.taken hg (fun b h1 h2=>h.ap2 b h1 h2.symm),ho,own_grow h.gone hg (own_ne h.gone h.late (by decide)),h.ap1,fun b h1 h2=>by
 rcases hv with e|e;·exact h.ap2 b h1 (e▸h2)
 ·rw[e]at h2;injection h2 with h2;have:=(World.ownsRow.lt h.taken b h1).2;omega⟩
theorem QV.growG(h:QV w B vc vh vt vl vg lc lh ts ls gs)(ho:w'.ownsRow B 9 1 v' gs'.length (gs'.map encStr))(hg:w.grownBy w' vg.ownBlock):QV w' B vc vh vt vl v' lc lh ts ls gs':=⟨own_grow h.clk hg (own_ne h.clk h.gone (by decide)),own_grow h.had hg (own_ne h.had h.gone (by decide)),own_grow h.taken hg (own_ne h.taken h.gone (by decide)),own_grow h.late hg (own_ne h.late h.gone (by decide)),ho,h.ap1,h.ap2⟩
theorem QV.set(h:QV w B vc vh vt vl vg lc lh ts ls gs){t:Nat}{cs:Array Value}(ht:w.heap[t]?=some (.cells cs 42 (0,0)))(o:Nat)(u:Value):QV (w.setCell ⟨t,o,none⟩ u) B vc vh vt vl vg lc lh ts ls gs:=by
 have key: ∀{b:Nat}{e:TypeId}{n size:Nat}{v:Value}{xs:List Value},w.ownsRow B e size v n xs→e≠42→v.ownBlock=some b→(w.setCell ⟨t,o,none⟩ u).heap[b]?=w.heap[b]?:=fun{b e n size v xs}ho he hb=>by refine Below.heap_setCell _ ⟨t,o,none⟩ _ _ fun hbt=>?_;obtain⟨cs',hc⟩:=ownsRow_typ ho hb;rw[hbt,ht]at hc;injection hc with hc;injection hc with _ hc;exact he hc.symm
 exact⟨ownsRow_keep h.clk fun b hb=>key h.clk (by decide) hb,ownsRow_keep h.had fun b hb=>key h.had (by decide) hb,ownsRow_keep h.taken fun b hb=>key h.taken (by decide) hb,ownsRow_keep h.late fun b hb=>key h.late (by decide) hb,ownsRow_keep h.gone fun b hb=>key h.gone (by decide) hb,h.ap1,h.ap2⟩
end
def QOdd(w0:World)(t:Nat)(W:World):Prop:= ∃(a b:Int)(Ac Ah At Al Ag:Option Addr)(kc kh kt kl kg B:Nat)(lc lh:List UInt8)(ts ls:List Ev)(gs:List (List UInt8)),W.heap[t]?=some (ptsObj a b (.slice Ac lc.length kc) (.slice Ah lh.length kh) (.slice At ts.length kt) (.slice Al ls.length kl) (.slice Ag gs.length kg))∧QV W B (.slice Ac lc.length kc) (.slice Ah lh.length kh) (.slice At ts.length kt) (.slice Al ls.length kl) (.slice Ag gs.length kg) lc lh ts ls gs∧lc.length≤100000∧lh.length≤1000000000∧ts.length≤200∧ls.length≤200∧gs.length≤200∧(∀e∈ts,e.small)∧(∀e∈ls,e.small)∧PtBd 200 lc lh∧decH lh≠.torn∧(∀c m,¬PartsOk a b lc lh gs ts ls c m)∧RowKit.Below w0.heap.size w0 W
theorem QOdd.of{w0 W:World}{t:Nat}{a b:Int}{vc vh vt vl vg:Value}{B:Nat}{lc lh:List UInt8}{ts ls:List Ev}{gs:List (List UInt8)}(hb:W.heap[t]?=some (ptsObj a b vc vh vt vl vg))(hq:QV W B vc vh vt vl vg lc lh ts ls gs)(h1:lc.length≤100000)(h2:lh.length≤1000000000)(h3:ts.length≤200)(h4:ls.length≤200)(h5:gs.length≤200)(h6: ∀e∈ts,e.small)(h7: ∀e∈ls,e.small)(h8:PtBd 200 lc lh)(h9:decH lh≠.torn)(h10: ∀c m,¬PartsOk a b lc lh gs ts ls c m)(h11:RowKit.Below w0.heap.size w0 W):QOdd w0 t W:=by obtain⟨Ac,kc,rfl⟩:=hq.clk.form;obtain⟨Ah,kh,rfl⟩:=hq.had.form;obtain⟨At,kt,rfl⟩:=ownsRow_form hq.taken;obtain⟨Al,kl,rfl⟩:=ownsRow_form hq.late;obtain⟨Ag,kg,rfl⟩:=ownsRow_form hq.gone;exact⟨a,b,Ac,Ah,At,Al,Ag,kc,kh,kt,kl,kg,B,lc,lh,ts,ls,gs,hb,hq,h1,h2,h3,h4,h5,h6,h7,h8,h9,h10,h11⟩
theorem of_odd{W:World}{B:Nat}{a b:Int}{Ac Ah At Al Ag:Option Addr}{kc kh kt kl kg:Nat}{lc lh:List UInt8}{ts ls:List Ev}{gs:List (List UInt8)}(hq:QV W B (.slice Ac lc.length kc) (.slice Ah lh.length kh) (.slice At ts.length kt) (.slice Al ls.length kl) (.slice Ag gs.length kg) lc lh ts ls gs)(h1:lc.length≤100000)(h2:lh.length≤1000000000)(h3:ts.length≤200)(h4:ls.length≤200)(h5:gs.length≤200)(h6: ∀e∈ts,e.small)(h7: ∀e∈ls,e.small)(h8:PtBd 200 lc lh)(h9:decH lh≠.torn)(h10: ∀c m,¬PartsOk a b lc lh gs ts ls c m)(hm:MaxAt W)(he:ErrsAt W)(ht:Lib.TabBelow Tryz.prog W.heap.size W "internal/strconv.uint64pow10" .u64 Lib.pow10Tab):Calls Tryz.prog 25 #[ptsAgg a b (.slice Ac lc.length kc) (.slice Ah lh.length kh) (.slice At ts.length kt) (.slice Al ls.length kl) (.slice Ag gs.length kg)] W (fun e w'=>e=.returned (.tuple #[.pointer none,.int .i64 2])∧RowKit.Below W.heap.size W w'):=by
 refine(of_any W 200 Ac Ah At Al Ag _ kc _ kh _ kt _ kl _ kg a b lc lh ts ls gs {clk:=hq.clk.byt,had:=hq.had.byt,tk:=Cel.of_own hq.taken,le:=Cel.of_own hq.late,gn:=Cel.of_own hq.gone,hnc:=h1,hnh:=h2,hnt:=h3,hnl:=h4,hng:=h5,hN:=by omega,st:=h6,sl:=h7,max:=hm,errs:=he,tab:=ht,bd:=h8}).mono ?_;rintro e w'⟨hb,⟨c,m,bi,F,hp,rfl,hi,hF⟩|⟨er,rfl,g1,g2⟩⟩;·exact absurd hp (h10 c m)
 ·rcases g1 with rfl|⟨_,g1⟩;·exact⟨rfl,hb⟩
  ·exact absurd g1 h9
theorem box_grow{w w':World}{B n size t:Nat}{e T:TypeId}{v:Value}{xs:List Value}{cs:Array Value}{fz:Nat×Nat}(h:w.ownsRow B e size v n xs)(hg:w.grownBy w' v.ownBlock)(ht:w.heap[t]?=some (.cells cs T fz))(hne:e≠T):w'.heap[t]?=w.heap[t]?:=hg.block t (heap_lt ht) fun hb=>by obtain⟨cs',hc⟩:=ownsRow_typ h hb.symm;rw[ht]at hc;injection hc with hc;injection hc with _ hc;exact hne hc.symm
theorem odd_eq{N:Nat}{x:Itk}{a b:Int}{lh:List UInt8}{gs:List (List UInt8)}{ts ls:List Ev}{c:Clk}{m:Had}(hx:PtGood N x)(h:PartsOk a b (encC x.clk) lh gs ts ls c m):c=x.clk:=by have h1:=h.dc;rw[hx.dc]at h1;injection h1 with h1;exact h1.symm
theorem odd_eqH{N:Nat}{x:Itk}{a b:Int}{lc:List UInt8}{gs:List (List UInt8)}{ts ls:List Ev}{c:Clk}{m:Had}(hx:PtGood N x)(hN:N≤600)(h:PartsOk a b lc (encH x.had) gs ts ls c m):m=x.had:=by obtain⟨r,h1⟩:=h.dh;rw[hx.dh hN]at h1;injection h1 with h1 _;exact h1.symm
theorem encH_short{N:Nat}{x:Itk}(hx:PtGood N x)(hN:N≤100):(encH x.had).length≤200000000:=by have h1:=numB_short (n:=x.had.length) (by have:=hx.ok.had;omega);have h2:=flat_len hx.play.ok (fun p hp=>Nat.le_trans (hx.ok.hadrow hx.play.ok p hp) (by omega)) x.had.length;rw[List.take_length]at h2;have h3:=hx.ok.had;unfold encH;rw[List.length_append];omega
theorem took_had(x:Itk)(e:Ev):(x.took e).had=putH x.had e.src e.num:=by unfold Itk.took;split<;>rfl
theorem had_took{x:Itk}{e:Ev}(h:HadOk x.had)(hr:x.refuses e=false){s:List UInt8}{n:Int}(hh:hadB x.had s n=true):hadB (x.took e).had s n=true:=by obtain⟨hm,_,hn⟩:=not_refused hr;rw[took_had,putH_had h (may_put hm hn),hh];rfl
theorem lates_had(x:Itk)(e:Ev):(x.lates e).had=x.had:=by unfold Itk.lates;split<;>rfl
theorem had_deed{x:Itk}(h:PlayInv x)(d:Dd){s:List UInt8}{n:Int}(hh:hadB x.had s n=true):hadB (x.deed d).had s n=true:=by
 unfold Itk.deed;split
 ·unfold Itk.offer;split;·exact hh
  ·rename_i hr;split;·exact had_took (x:=(x.tick d.now).hear d.e d.now) h.ok (show(x.tick d.now).refuses d.e=false by simpa using hr) hh
   ·rw[lates_had];exact hh
 split
 ·unfold Itk.admits;split;·exact hh
  ·rename_i hr;exact had_took (x:=x.hear d.e x.clk.now) h.ok (show x.refuses d.e=false by simpa using hr) hh
 split;·exact hh
 split;·exact hh
 ·exact hh
theorem had_deeds: ∀(ds:List Dd){x:Itk},PlayInv x→ ∀{s:List UInt8}{n:Int},hadB x.had s n=true→hadB (deeds x ds).had s n=true|[],_,_,_,_,hh=>hh|d::ds,x,h,_,_,hh=>had_deeds ds (x:=x.deed d) (h.deed d) (had_deed h d hh)
theorem psame_any(w:World)(B1 B2:Nat)(x:Itk)(a b:Int)(vc vh vt vl vg vc' vh' vt' vl' vg':Value)(r r':List (List UInt8))(h1:PtsV w B1 x vc vh vt vl vg r)(h2:PtsV w B2 x vc' vh' vt' vl' vg' r')(ht:x.taken.length≤100000)(hl:x.late.length≤100000)(hg:x.gone.length≤100000):Calls Tryz.prog 26 #[ptsAgg a b vc vh vt vl vg,ptsAgg a b vc' vh' vt' vl' vg'] w (Says true w):=by
 obtain rfl:=rising_unique h1.rise h2.rise;obtain⟨Ac,kc,rfl⟩:=h1.clk.form;obtain⟨Ah,kh,rfl⟩:=h1.had.form;obtain⟨At,kt,rfl⟩:=ownsRow_form h1.taken;obtain⟨Al,kl,rfl⟩:=ownsRow_form h1.late;obtain⟨Ag,kg,rfl⟩:=ownsRow_form h1.gone;obtain⟨Ac',kc',rfl⟩:=h2.clk.form;obtain⟨Ah',kh',rfl⟩:=h2.had.form;obtain⟨At',kt',rfl⟩:=ownsRow_form h2.taken;obtain⟨Al',kl',rfl⟩:=ownsRow_form h2.late;obtain⟨Ag',kg',rfl⟩:=ownsRow_form h2.gone;have hr:=rising_lenO h1.rise;have hs1:(w.alloc (ptsObj a b (.slice Ac (encC x.clk).length kc) (.slice Ah (encH x.had).length kh) (.slice At x.taken.length kt) (.slice Al x.late.length kl) (.slice Ag r.length kg))).heap.size=w.heap.size+1:=by simp
 have HB2:=qH (show RowKit.Below w.heap.size w ((w.alloc (ptsObj a b (.slice Ac (encC x.clk).length kc) (.slice Ah (encH x.had).length kh) (.slice At x.taken.length kt) (.slice Al x.late.length kl) (.slice Ag r.length kg))).alloc (ptsObj a b (.slice Ac' (encC x.clk).length kc') (.slice Ah' (encH x.had).length kh') (.slice At' x.taken.length kt') (.slice Al' x.late.length kl') (.slice Ag' r.length kg')))from((Below.refl _ _).alloc (Nat.le_refl _) _).alloc (by simp) _);have HX2:=qH (show((w.alloc (ptsObj a b (.slice Ac (encC x.clk).length kc) (.slice Ah (encH x.had).length kh) (.slice At x.taken.length kt) (.slice Al x.late.length kl) (.slice Ag r.length kg))).alloc (ptsObj a b (.slice Ac' (encC x.clk).length kc') (.slice Ah' (encH x.had).length kh') (.slice At' x.taken.length kt') (.slice Al' x.late.length kl') (.slice Ag' r.length kg'))).heap[w.heap.size+1]?=some (ptsObj a b (.slice Ac' (encC x.clk).length kc') (.slice Ah' (encH x.had).length kh') (.slice At' x.taken.length kt') (.slice Al' x.late.length kl') (.slice Ag' r.length kg'))from by rw[←hs1];exact heap_alloc_new _ _);have HY2:=qH (show((w.alloc (ptsObj a b (.slice Ac (encC x.clk).length kc) (.slice Ah (encH x.had).length kh) (.slice At x.taken.length kt) (.slice Al x.late.length kl) (.slice Ag r.length kg))).alloc (ptsObj a b (.slice Ac' (encC x.clk).length kc') (.slice Ah' (encH x.had).length kh') (.slice At' x.taken.length kt') (.slice Al' x.late.length kl') (.slice Ag' r.length kg'))).heap[w.heap.size]?=some (ptsObj a b (.slice Ac (encC x.clk).length kc) (.slice Ah (encH x.had).length kh) (.slice At x.taken.length kt) (.slice Al x.late.length kl) (.slice Ag r.length kg))from by rw[Below.heap_alloc _ _ _ (by rw[hs1];omega)];exact heap_alloc_new w _);clear hs1;go_enter Tryz.func26,Tryz.ntmps26;go_upto_region 1 with fail;generalize((w.alloc (ptsObj a b (.slice Ac (encC x.clk).length kc) (.slice Ah (encH x.had).length kh) (.slice At x.taken.length kt) (.slice Al x.late.length kl) (.slice Ag r.length kg))).alloc (ptsObj a b (.slice Ac' (encC x.clk).length kc') (.slice Ah' (encH x.had).length kh') (.slice At' x.taken.length kt') (.slice Al' x.late.length kl') (.slice Ag' r.length kg')))=w2 at*;have HV1:=qH (h1.up HB2.out);have HV2:=qH (h2.up HB2.out);have kc1:=HV1.out.clk.byt.str (P:=Tryz.prog) 32 5 9 Tryz.underlying32 Tryz.underlying5 Tryz.underlying9;have kc2:=HV2.out.clk.byt.str (P:=Tryz.prog) 32 5 9 Tryz.underlying32 Tryz.underlying5 Tryz.underlying9;have kc3:=HV1.out.had.byt.str (P:=Tryz.prog) 32 5 9 Tryz.underlying32 Tryz.underlying5 Tryz.underlying9;have kc4:=HV2.out.had.byt.str (P:=Tryz.prog) 32 5 9 Tryz.underlying32 Tryz.underlying5 Tryz.underlying9;obtain⟨y0,y1,y2,y3,y4,y5,y6,_⟩:=pts_cells HY2.out;obtain⟨z0,z1,z2,z3,z4,z5,z6,_⟩:=pts_cells HX2.out;have HXX:=qH HX2.out;have HYY:=qH HY2.out;have HT:=qH ht;have HLL:=qH hl;have HRR:=qH (show r.length≤100000 by omega);clear h1 h2 hg hr ht hl;go_wp2_with fail;clear y0 y1 y2 y3 y4 y5 y6 z0 z1 z2 z3 z4 z5 z6 kc1 kc2 kc3 kc4;have E1:Evs w2 w2.heap.size At x.taken.length kt x.taken:=Cel.of_own HV1.out.taken;have E2:Evs w2 w2.heap.size At' x.taken.length kt' x.taken:=Cel.of_own HV2.out.taken;with_reducible refine(same02_any w2 _ _ At At' _ kt kt' x.taken E1 E2 HT.out).mono ?_
 clear E1 E2;rintro e w3⟨rfl,q,rfl⟩;have hb3:=below_drewN (Below.refl w2.heap.size w2) q;have HB3:=qH (below_drewN HB2.out q);have HV13:=qH (HV1.out.up hb3);have HV23:=qH (HV2.out.up hb3);obtain⟨y0,y1,y2,y3,y4,y5,y6,_⟩:=pts_cells ((hb3.block _ (heap_lt HYY.out)).trans HYY.out);obtain⟨z0,z1,z2,z3,z4,z5,z6,_⟩:=pts_cells ((hb3.block _ (heap_lt HXX.out)).trans HXX.out);have HX3:=qH ((hb3.block _ (heap_lt HXX.out)).trans HXX.out);have HY3:=qH ((hb3.block _ (heap_lt HYY.out)).trans HYY.out);clear hb3 HV1 HV2 HB2;generalize w2.drewN q=w3 at*;go_wp2_with fail;clear y0 y1 y2 y3 y4 y5 y6 z0 z1 z2 z3 z4 z5 z6;have E1:Evs w3 w3.heap.size Al x.late.length kl x.late:=Cel.of_own HV13.out.late;have E2:Evs w3 w3.heap.size Al' x.late.length kl' x.late:=Cel.of_own HV23.out.late;with_reducible refine(same02_any w3 _ _ Al Al' _ kl kl' x.late E1 E2 HLL.out).mono ?_
 clear E1 E2;rintro e w4⟨rfl,q,rfl⟩;have hb4:=below_drewN (Below.refl w3.heap.size w3) q;have HB4:=qH (below_drewN HB3.out q);have HV14:=qH (HV13.out.up hb4);have HV24:=qH (HV23.out.up hb4);obtain⟨y0,y1,y2,y3,y4,y5,y6,_⟩:=pts_cells ((hb4.block _ (heap_lt HY3.out)).trans HY3.out);obtain⟨z0,z1,z2,z3,z4,z5,z6,_⟩:=pts_cells ((hb4.block _ (heap_lt HX3.out)).trans HX3.out);clear hb4 HV13 HV23 HB3;generalize w3.drewN q=w4 at*;go_wp2_with fail;clear y0 y1 y2 y3 y4 y5 y6 z0 z1 z2 z3 z4 z5 z6;have E1:Strs w4 w4.heap.size Ag r.length kg r:=Cel.of_own HV14.out.gone;have E2:Strs w4 w4.heap.size Ag' r.length kg' r:=Cel.of_own HV24.out.gone;with_reducible refine(texts_any w4 _ _ Ag Ag' _ kg kg' r E1 E2 HRR.out).mono ?_
 clear E1 E2;rintro e w5⟨rfl,q,rfl⟩;have HB5:=qH (below_drewN HB4.out q);go_wp2;go_ret;exact⟨rfl,HB5.out⟩
end Go.Proofs.YtbejfgmdkmddnaaGreatDoor
