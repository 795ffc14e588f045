/-
  Layer 7, the document's: Put.
-/
import Derived.Test.YtbejfgmdkmddnaaGreatDoorQRHad3
set_option maxRecDepth 100000
set_option maxHeartbeats 16000000
namespace Go.Proofs.YtbejfgmdkmddnaaGreatDoor
open Go.RowKit Go.Maps Go.Sort
section
variable{α:Type}
theorem putB_lt{k:List UInt8}{v:α}{y:List UInt8×α}{r:Row α}(h:RowUp (y::r))(hb:bytesBefore k y.1=true):putB k v (y::r)=(k,v)::y::r:=by
 obtain⟨h1,h2⟩:=List.pairwise_cons.1 h;have hr: ∀p∈y::r,p.1≠k:=fun p hp he=>by
  rcases List.mem_cons.1 hp with rfl|hp;·rw[he,bb_irrefl]at hb;cases hb
  ·have:=bb_trans hb (h1 p hp);rw[he,bb_irrefl]at this;cases this
 unfold putB;rw[List.filter_eq_self.2 (fun p hp=>by simp[hr p hp]),insB,if_pos hb]
theorem putB_eq{k:List UInt8}{v:α}{y:List UInt8×α}{r:Row α}(h:RowUp (y::r))(e:y.1=k):putB k v (y::r)=(k,v)::r:=by
 obtain⟨h1,h2⟩:=List.pairwise_cons.1 h;have hr: ∀p∈r,p.1≠k:=fun p hp he=>by have:=h1 p hp;rw[he,e,bb_irrefl]at this;cases this
 unfold putB;rw[List.filter_cons_of_neg (by simp[e]),List.filter_eq_self.2 (fun p hp=>by simp[hr p hp])];cases r with|nil=>rfl|cons z t=>rw[insB,if_pos (by have:=h1 z (by simp);rw[e]at this;exact this)]
theorem putB_gt{k:List UInt8}{v:α}{y:List UInt8×α}{r:Row α}(hb:bytesBefore y.1 k=true):putB k v (y::r)=y::putB k v r:=by
 have hne:y.1≠k:=fun e=>by rw[e,bb_irrefl]at hb;cases hb
 have hnk:bytesBefore k y.1=false:=by
  cases hq:bytesBefore k y.1;·rfl
  ·have:=bb_trans hb hq;rw[bb_irrefl]at this;cases this
 unfold putB;rw[List.filter_cons_of_pos (by simp[hne]),insB,if_neg (by simp[hnk])]
end
def keysH(R:List HRow):Row (List Int):=R.map fun q=>(q.1,q.2.1)
theorem blbb: ∀a b:List UInt8,Op.bytesLess a b=bytesBefore a b|[],[]=>rfl|[],_::_=>rfl|_::_,[]=>rfl|x::a,y::b=>by unfold Op.bytesLess bytesBefore;rw[blbb a b]
theorem had_info:(Tryz.prog.info? 130).map (fun i=>(i.zero,i.size,i.bytes))=some (some (.agg #[.string ByteArray.empty,.slice none 0 0]),2,40):=by kernel_rfl
def OldNew(w:World)(R:List HRow)(s:List UInt8)(v:List Int)(wr:World)(q:HRow):Prop:=q∈R∨(q.1=s∧q.2.1=v∧wr.ownsRow w.heap.size 3 1 q.2.2 v.length (numCells v))
theorem OldNew.keep{w wr w':World}{R:List HRow}{s:List UInt8}{v:List Int}{q:HRow}{base n:Nat}{vo:Value}{xs:List Value}(h:OldNew w R s v wr q)(ho:wr.ownsRow base 130 2 vo n xs)(hg:wr.grownBy w' vo.ownBlock):OldNew w R s v w' q:=by
 rcases h with h|⟨h1,h2,h3⟩;·exact .inl h
 ·refine .inr ⟨h1,h2,World.ownsRow.kept h3 hg ?_⟩;exact ownsRow_apart h3 ho (by decide)
def PtRelH(w:World)(R:List HRow)(s:List UInt8)(v:List Int)(vo d i:Value)(wr:World):Prop:= ∃(k:Nat)(done:Bool)(out:List HRow),i=.int .i64 k∧k≤R.length∧d=.bool done∧wr.ownsRow w.heap.size 130 2 vo out.length (hadCells out)∧Below w.heap.size w wr∧out.length≤k+1∧putB s v (keysH R)=keysH out++(if done then keysH (R.drop k)else putB s v (keysH (R.drop k)))∧(∀q∈out,OldNew w R s v wr q)∧(done=false→out.length≤k∧ ∀q∈R.take k,bytesBefore q.1 s=true)∧(done=true→ ∀q∈R.drop k,q.1≠s)
theorem rowH_none{R:List HRow}{s:List UInt8}(h: ∀q∈R,q.1≠s):rowH R s=[]:=by unfold rowH;rw[List.find?_eq_none.2 (fun q hq=>by simp[h q hq])];rfl
theorem rowH_at{R:List HRow}{s:List UInt8}(k:Nat)(hk:k<R.length)(h1:R[k].1=s)(h2: ∀q∈R.take k,q.1≠s):rowH R s=R[k].2.1:=by unfold rowH;rw[List.find?_eq_some_iff_getElem.2 ⟨by simp[h1],k,hk,rfl,fun j hj=>by have:=h2 R[j] (List.mem_take_iff_getElem.2 ⟨j,by omega,rfl⟩);simpa using this⟩];rfl
theorem IntsV.below{w w':World}{S:Nat→Prop}{v:Value}{l:List Int}(h:IntsV w S v l)(hb:Below w.heap.size w w'):IntsV w' S v l:=by obtain⟨A,c,hv,hc,hvw⟩:=h;exact⟨A,c,hv,Cel.more (Cel.below hc hb) hb.size,hvw⟩
theorem IntsV.wide{w:World}{S T:Nat→Prop}{v:Value}{l:List Int}(h:IntsV w S v l)(hT: ∀b,S b→T b):IntsV w T v l:=by obtain⟨A,c,hv,hc,hvw⟩:=h;exact⟨A,c,hv,hc,hvw.mono hT⟩
theorem own_low{w:World}{base base' n:Nat}{e:TypeId}{size:Nat}{v:Value}{xs:List Value}(h:w.ownsRow base e size v n xs)(hb:base'≤base):w.ownsRow base' e size v n xs:=by
 refine⟨h.1,?_⟩;rcases h.2 with h'|⟨g,cap,cur,e,hg,rest⟩;·exact .inl h'
 ·exact .inr ⟨g,cap,cur,e,by omega,rest⟩
theorem hadCells_snoc(R:List HRow)(q:HRow):hadCells (R++[q])=hadCells R++hadOne q:=by simp[hadCells]
theorem keysH_append(a b:List HRow):keysH (a++b)=keysH a++keysH b:=by simp[keysH]
def PutPostH(w:World)(S:Nat→Prop)(R:List HRow)(s:List UInt8)(v:List Int)(e:Ending)(w':World):Prop:= ∃A' c' R',e=.returned (.tuple #[.slice A' R'.length c',.bool true])∧keysH R'=putB s v (keysH R)∧Hads w' (fun b=>S b∨(w.heap.size≤b∧b<w'.heap.size)) A' R'.length c' R'∧Below w.heap.size w w'∧R'.length≤R.length+1
theorem PutPostH.of{w wr:World}{S:Nat→Prop}{R out:List HRow}{s:List UInt8}{v:List Int}{vo:Value}(hR: ∀q∈R,IntsV w S q.2.2 q.2.1)(ho:wr.ownsRow w.heap.size 130 2 vo out.length (hadCells out))(hb:Below w.heap.size w wr)(hk:keysH out=putB s v (keysH R))(hold: ∀q∈out,OldNew w R s v wr q)(hl:out.length≤R.length+1):PutPostH w S R s v (.returned (.tuple #[vo,.bool true])) wr:=by
 obtain⟨A,c,rfl⟩:=ownsRow_form ho;refine⟨A,c,out,rfl,hk,⟨Cel.of_own ho,fun q hq=>?_,(own_in ho).mono fun b h=>.inr h⟩,hb,hl⟩;rcases hold q hq with h|⟨h1,h2,h3⟩;·exact((hR q h).below hb).wide fun b h=>.inl h
 ·obtain⟨A2,c2,hv2⟩:=ownsRow_form h3;rw[h2,hv2];rw[hv2]at h3;exact⟨A2,c2,rfl,Cel.of_own h3,(own_in h3).mono fun b h=>.inr h⟩
theorem rput_any(w:World)(S:Nat→Prop)(A:Option Addr)(n c:Nat)(R:List HRow)(h:Hads w S A n c R)(hn:n≤90000)(hrow: ∀q∈R,q.2.1.length≤90000)(hup:RowUp (keysH R))(s:List UInt8)(hs:nameB s=true)(hsl:s.length≤1000000000)(x:Int)(hx1:1≤x)(hx2:x≤1099511627776)(hnot:x∉rowH R s):Calls Tryz.prog 179 #[.slice A n c,.string ⟨s.toArray⟩,.int .i64 x] w (PutPostH w S R s (insN x (rowH R s))):=by
 have HH:=qH h;clear h;have HL:=qH HH.out.len;have HRW:=qH hrow;have HUP:=qH hup;have HS:=qH hs;have HNOT:=qH (show decide (x∈rowH R s)=false from decide_eq_false hnot);clear hrow hup hs hnot;obtain⟨i0,hi,hz0,hz1,hz2⟩:=info_parts had_info;have HI:=qH hi;have HZ0:=qH hz0;have HZ1:=qH hz1;have HZ2:=qH hz2;clear hi hz0 hz1 hz2;have HIN:=qH (show∀vy nm,∀u∈([.string ⟨(nm:List UInt8).toArray⟩,vy]:List Value),(∃A n c,vy=.slice A n c)→u.oneCell'=true from fun vy nm u hu hv=>by obtain⟨A,n,c,rfl⟩:=hv;simp only[List.mem_cons,List.not_mem_nil,or_false]at hu;rcases hu with rfl|rfl<;>rfl);go_enter Tryz.func179,Tryz.ntmps179;go_wp2_with fail;refine(rn07 w s hsl).mono ?_;rintro r w1⟨rfl,rfl⟩;rw[HS.out];go_wp2_with fail;refine(rhas_any w S A n c R HH.out (by omega) s x (fun q hq=>by have:=HRW.out q hq;omega)).mono ?_;rintro r w1⟨rfl,hw1⟩;rw[hw1,HNOT.out];clear hw1;generalize hv:insN x (rowH R s)=v at*;have HV:=qH hv;clear hv;go_wp2;go_loopw[8,9,10](fun vo d i wr=>PtRelH w R s v vo d i wr)(fun _ _ i _=>n-(intOf i).toNat);case atStart=>exact⟨0,false,[],rfl,Nat.zero_le _,rfl,World.ownsRow_lit w #[] 0 (Nat.le_refl _) (by simp[maxLen]) rfl,(Below.refl _ _).alloc (Nat.le_refl _) _,by simp,by simp[keysH],by simp,fun _=>⟨by simp,by simp⟩,fun h=>by cases h⟩
 case round=>
  obtain⟨k,done,out,rfl,hk,rfl,hown,hbel,hlen,hput,hold,hdf,hdt⟩:=hrel;have HO:=qH hown;have HP:=qH hput;have HOLD:=qH hold;have HDF:=qH hdf;have HDT:=qH hdt;clear hown hput hold hdf hdt;have hsz:=hbel.size;have hkn':k≤n:=by have:=HL.out;omega
  by_cases hkn:k<n
  ·have hkl:k<R.length:=by have:=HL.out;omega
   obtain⟨b,off,rfl,hb,hSb,e0,e1⟩:=HH.out.at_ k hkl;have e0':=(hbel.cell (p:=⟨b,off+k*2,none⟩) hb).trans e0;have e1':=(hbel.cell (p:=⟨b,off+k*2+1,none⟩) hb).trans e1;have HIV:=qH (HH.out.row _ (List.getElem_mem hkl));have HMEM:=qH (List.getElem_mem hkl);have HDR:=qH (show R.drop k=R[k]::R.drop (k+1)from List.drop_eq_getElem_cons hkl);have HTK:=qH (show R.take (k+1)=R.take k++[R[k]]by rw[List.take_add_one,List.getElem?_eq_getElem hkl];rfl);have HAT:=qH (show R[k].1=s→(∀q∈R.take k,q.1≠s)→rowH R s=R[k].2.1 from fun h1 h2=>rowH_at k hkl h1 h2);have HUK:=qH (show RowUp (keysH (R.drop k))by
    have:keysH (R.drop k)=(keysH R).drop k:=by unfold keysH;rw[List.map_drop]
    rw[this];exact List.Pairwise.drop HUP.out);have hl9:=HRW.out _ (List.getElem_mem hkl);clear e0 e1;generalize R[k]=y at*;obtain⟨nm,l,vy⟩:=y;simp only at*;obtain⟨Ay,cy,hvy,_,_⟩:=HIV.out;subst hvy;have t1:(k:Int)<n:=by omega
   cases done
   ·have hdl:=(HDF.out rfl).1;have HTB:=qH (HDF.out rfl).2;clear HDF HDT;have hblb:=blbb s nm;by_cases hlt:bytesBefore s nm=true
    ·have HNK:=qH (show∀q∈R,q.1≠s from fun q hq he=>by
      rw[←List.take_append_drop k R]at hq;rcases List.mem_append.1 hq with hq|hq;·have:=HTB.out q hq;rw[he,bb_irrefl]at this;cases this
      ·rw[HDR.out]at hq;rcases List.mem_cons.1 hq with hq|hq;·rw[hq]at he;simp only at he;rw[he,bb_irrefl]at hlt;cases hlt
       ·have h1:bytesBefore nm q.1=true:=by have h2:=HUK.out;rw[HDR.out]at h2;exact(List.pairwise_cons.1 h2).1 (q.1,q.2.1) (List.mem_map.2 ⟨q,hq,rfl⟩)
        have:=bb_trans hlt h1;rw[he,bb_irrefl]at this;cases this);have HVX:=qH (show v=[x]by rw[←HV.out,rowH_none HNK.out];rfl);have HLT:=qH hlt;have b0:Op.bytesLess s nm=true:=by rw[hblb];exact hlt
     have b1:(nm==s)=false:=by rw[beq_eq_false_iff_ne];intro e;rw[e,bb_irrefl]at hlt;cases hlt
     clear hlt hblb;go_wp2_with(at_builtin;refine wpList_app (P:=Tryz.prog) rfl (.tmp 48) (.tmp 53) 61 rfl 130 i0 _ 2 40 Tryz.underlying61 HI.out HZ0.out HZ1.out HZ2.out rfl (by decide) w.heap.size _ out.length (hadCells out) rfl ?c1 (wr.heap.size+2) _ _ _ [.string ⟨s.toArray⟩,.slice (some ⟨wr.heap.size,0,none⟩) 1 1] rfl ?c2 ?c3 ?c4 ?c5 ?c6 ?_);case c1=>exact World.ownsRow.alloc (World.ownsRow.alloc HO.out _) _
     case c2=>(have:=Cel.new (size:=2) (n:=1) (wr.alloc (.cells #[.int .i64 x] 3)) #[.string ⟨s.toArray⟩,.slice (some ⟨wr.heap.size,0,none⟩) 1 1] 130 (by unfold maxLen;omega) rfl;simpa using this)
     case c3=>first|exact⟨rfl,rfl⟩|(simp[Value.oneCell'])
     case c4=>unfold maxLen;omega
     case c5=>omega
     case c6=>first|omega|(simp;omega)
     intro v2 w2 how2 hgw2 _;have hbA:wr.grownBy ((wr.alloc (.cells #[.int .i64 x] 3)).alloc (.cells #[.string ⟨s.toArray⟩,.slice (some ⟨wr.heap.size,0,none⟩) 1 1] 130)) none:=(World.grownBy_alloc wr _ none).trans (World.grownBy_alloc _ _ none);have hg2:=(hbA.but _).andThen hgw2 (fun j hj=>.inr hj);have hb2:Below w.heap.size w w2:=Below.grown hbel hg2 (by omega) (fun j hj=>(HO.out.lt j hj).1);have hnew:w2.ownsRow w.heap.size 3 1 (.slice (some ⟨wr.heap.size,0,none⟩) 1 1) 1 (numCells [x]):=by have h1:(wr.alloc (.cells #[.int .i64 x] 3)).ownsRow w.heap.size 3 1 (.slice (some ⟨wr.heap.size,0,none⟩) 1 1) 1 (numCells [x]):=World.ownsRow_lit wr #[.int .i64 x] 1 hsz (by simp[maxLen]) rfl;have h2:=World.ownsRow.alloc h1 (.cells #[.string ⟨s.toArray⟩,.slice (some ⟨wr.heap.size,0,none⟩) 1 1] 130);exact World.ownsRow.kept h2 hgw2 (ownsRow_apart h2 (World.ownsRow.alloc (World.ownsRow.alloc HO.out _) _) (by decide))
     have HO2:=qH (show w2.ownsRow w.heap.size 130 2 v2 (out++[(s,[x],Value.slice (some ⟨wr.heap.size,0,none⟩) 1 1)]).length (hadCells (out++[(s,[x],Value.slice (some ⟨wr.heap.size,0,none⟩) 1 1)]))by rw[hadCells_snoc,List.length_append];exact how2);have HOLD2:=qH (show∀q∈out++[(s,[x],Value.slice (some ⟨wr.heap.size,0,none⟩) 1 1)],OldNew w R s v w2 q from fun q hq=>by
      rcases List.mem_append.1 hq with hq|hq;·exact(HOLD.out q hq).keep HO.out hg2
      ·rw[List.mem_singleton]at hq;rw[hq];exact .inr ⟨rfl,HVX.out.symm,by rw[HVX.out];exact hnew⟩);have c0:w2.cell? ⟨b,off+k*2,none⟩=some (.string ⟨nm.toArray⟩):=(hb2.cell (p:=⟨b,off+k*2,none⟩) hb).trans ((hbel.cell (p:=⟨b,off+k*2,none⟩) hb).symm.trans e0');have c1:w2.cell? ⟨b,off+k*2+1,none⟩=some (.slice Ay l.length cy):=(hb2.cell (p:=⟨b,off+k*2+1,none⟩) hb).trans ((hbel.cell (p:=⟨b,off+k*2+1,none⟩) hb).symm.trans e1');have hol:(out++[(s,[x],Value.slice (some ⟨wr.heap.size,0,none⟩) 1 1)]).length=out.length+1:=by simp
     have HOL:=qH hol;have HKO:=qH (show keysH (out++[(s,[x],Value.slice (some ⟨wr.heap.size,0,none⟩) 1 1)])=keysH out++[(s,[x])]by rw[keysH_append];rfl);have hol2:(out++[(s,[x],Value.slice (some ⟨wr.heap.size,0,none⟩) 1 1)]).length≤k+1:=by simp;omega
     have hs2:=hb2.size;clear how2 hgw2 hbA hg2 hnew e0' e1' hol;generalize out++[(s,[x],Value.slice (some ⟨wr.heap.size,0,none⟩) 1 1)]=out2 at*;go_wp2_with(at_builtin;refine wpList_app (P:=Tryz.prog) rfl (.tmp 69) (.tmp 71) 61 rfl 130 i0 _ 2 40 Tryz.underlying61 HI.out HZ0.out HZ1.out HZ2.out rfl (by decide) w.heap.size _ out2.length (hadCells out2) rfl ?c1 (w2.heap.size+2) _ _ _ [.string ⟨nm.toArray⟩,.slice Ay l.length cy] rfl ?c2 ?c3 ?c4 ?c5 ?c6 ?_);case c1=>exact World.ownsRow.alloc (World.ownsRow.alloc HO2.out _) _
     case c2=>(have:=Cel.new (size:=2) (n:=1) (w2.alloc (.cells #[.string ⟨nm.toArray⟩,.slice Ay l.length cy] 130)) #[.string ⟨nm.toArray⟩,.slice Ay l.length cy] 130 (by unfold maxLen;omega) rfl;simpa using this)
     case c3=>first|exact⟨rfl,rfl⟩|(simp[Value.oneCell'])
     case c4=>unfold maxLen;omega
     case c5=>omega
     case c6=>first|omega|(simp;omega)
     intro v9 w9 how9 hgw9 _;have hbA:w2.grownBy ((w2.alloc (.cells #[.string ⟨nm.toArray⟩,.slice Ay l.length cy] 130)).alloc (.cells #[.string ⟨nm.toArray⟩,.slice Ay l.length cy] 130)) none:=(World.grownBy_alloc w2 _ none).trans (World.grownBy_alloc _ _ none);have hg9:=(hbA.but _).andThen hgw9 (fun j hj=>.inr hj);have hb9:Below w.heap.size w w9:=Below.grown hb2 hg9 (by have:=hb2.size;omega) (fun j hj=>(HO2.out.lt j hj).1);have HR:=qH (show PtRelH w R s v v9 (.bool true) (.int .i64 ((k+1:Nat):Int)) w9 from⟨k+1,true,out2++[(nm,l,Value.slice Ay l.length cy)],rfl,by have:=HL.out;omega,rfl,by rw[hadCells_snoc,List.length_append];exact how9,hb9,by simp;omega,by rw[HP.out,keysH_append,HKO.out,HDR.out];simp only[Bool.false_eq_true,if_false,if_true];rw[show keysH ((nm,l,Value.slice Ay l.length cy)::R.drop (k+1))=(nm,l)::keysH (R.drop (k+1))from rfl,putB_lt (by have h2:=HUK.out;rw[HDR.out]at h2;exact h2) HLT.out,HVX.out];simp[keysH],fun q hq=>by
      rcases List.mem_append.1 hq with hq|hq;·exact(HOLD2.out q hq).keep HO2.out hg9
      ·rw[List.mem_singleton]at hq;rw[hq];exact .inl HMEM.out,fun h=>(by cases h),fun _ q hq=>HNK.out q (List.mem_of_mem_drop hq)⟩);clear how9 hgw9 hbA hg9 hb9 c0 c1;go_wp2;go_roundw;case rel=>exact HR.out
     case measure=>simp[intOf];omega
    ·by_cases hes:nm=s
     ·have HVX:=qH (show v=insN x l by rw[←HV.out,HAT.out hes (fun q hq he=>by have:=HTB.out q hq;rw[he,bb_irrefl]at this;cases this)]);subst hes;have b0:Op.bytesLess nm nm=false:=by rw[hblb,bb_irrefl]
      have b1:(nm==nm)=true:=by simp
      have HNX:=qH (show∀q∈R.drop (k+1),q.1≠nm from fun q hq he=>by have h2:=HUK.out;rw[HDR.out]at h2;have:=(List.pairwise_cons.1 h2).1 (q.1,q.2.1) (List.mem_map.2 ⟨q,hq,rfl⟩);simp only at this;rw[he,bb_irrefl]at this;cases this);clear hlt hblb;have hbO:Below wr.heap.size wr (wr.alloc (.cells #[.string ⟨nm.toArray⟩,.slice Ay l.length cy] 130)):=(Below.refl _ _).alloc (Nat.le_refl _) _;have hbw:Below w.heap.size w (wr.alloc (.cells #[.string ⟨nm.toArray⟩,.slice Ay l.length cy] 130)):=hbel.alloc hsz _;have HIW:=qH (show IntsV (wr.alloc (.cells #[.string ⟨nm.toArray⟩,.slice Ay l.length cy] 130)) S (.slice Ay l.length cy) l from HIV.out.below hbw);go_wp2_with fail;refine(rising_any _ S _ l HIW.out (by omega) x).mono ?_;rintro r w3⟨nv,rfl,hnv,hb3⟩;obtain⟨An,cn,hvn⟩:=ownsRow_form hnv;subst hvn;have hsA:(wr.alloc (.cells #[.string ⟨nm.toArray⟩,.slice Ay l.length cy] 130)).heap.size=wr.heap.size+1:=by simp
      have hs3:=hb3.size;rw[hsA]at hs3;have hblk3:w3.heap[wr.heap.size]?=some (.cells #[.string ⟨nm.toArray⟩,.slice Ay l.length cy] 130):=(hb3.block wr.heap.size (by rw[hsA];omega)).trans (heap_alloc_new wr _);have x0:w3.cell? ⟨wr.heap.size,0,none⟩=some (.string ⟨nm.toArray⟩):=(cell_of_row w3 wr.heap.size 0 _ _ (0,0) hblk3).trans rfl;have x1:w3.cell? ⟨wr.heap.size,1,none⟩=some (.slice Ay l.length cy):=(cell_of_row w3 wr.heap.size 1 _ _ (0,0) hblk3).trans rfl;have xf: ∀o,w3.frozen? ⟨wr.heap.size,o,none⟩=false:=fun o=>frozen_of_row w3 wr.heap.size o _ _ hblk3;have hg3:wr.grownBy w3 none:=⟨hb3.os.trans hbO.os,hb3.tape.trans hbO.tape,hb3.output.trans hbO.output,by omega,fun i hi _=>(hb3.block i (by rw[hsA];omega)).trans (hbO.block i hi)⟩;have HO3:=qH (ownsRow_below HO.out (show Below wr.heap.size wr w3 from⟨hg3.os,hg3.tape,hg3.output,hg3.size,fun i hi=>hg3.block i hi (by simp)⟩) (Nat.le_refl _));have hown4: ∀(vv:Value)(e:TypeId)(size nn base:Nat)(xs:List Value),w3.ownsRow base e size vv nn xs→vv.ownBlock≠some wr.heap.size→((w3.setCell ⟨wr.heap.size,0,none⟩ (.string ⟨nm.toArray⟩)).setCell ⟨wr.heap.size,1,none⟩ (.slice An (insN x l).length cn)).ownsRow base e size vv nn xs:=fun vv e size nn base xs h hne=>ownsRow_setCell_other (ownsRow_setCell_other h hne _) hne _;have HO4:=qH (hown4 _ _ _ _ _ _ HO3.out (fun e=>by have:=(World.ownsRow.lt HO.out _ e).2;omega));have HN4:=qH (hown4 _ _ _ _ _ _ hnv (fun e=>by have:=(World.ownsRow.lt hnv _ e).1;rw[hsA]at this;omega));have hg4:wr.grownBy ((w3.setCell ⟨wr.heap.size,0,none⟩ (.string ⟨nm.toArray⟩)).setCell ⟨wr.heap.size,1,none⟩ (.slice An (insN x l).length cn)) none:=⟨hg3.os,hg3.tape,hg3.output,by simp[World.setCell];exact hg3.size,fun i hi hn=>(Below.heap_setCell _ _ _ i (by show i≠wr.heap.size;omega)).trans ((Below.heap_setCell _ _ _ i (by show i≠wr.heap.size;omega)).trans (hg3.block i hi hn))⟩;have HG4:=qH hg4;have hbk4:((w3.setCell ⟨wr.heap.size,0,none⟩ (.string ⟨nm.toArray⟩)).setCell ⟨wr.heap.size,1,none⟩ (.slice An (insN x l).length cn)).heap[wr.heap.size]?=some (.cells #[.string ⟨nm.toArray⟩,.slice An (insN x l).length cn] 130):=heap_set_row (heap_set_row hblk3);have hs4:((w3.setCell ⟨wr.heap.size,0,none⟩ (.string ⟨nm.toArray⟩)).setCell ⟨wr.heap.size,1,none⟩ (.slice An (insN x l).length cn)).heap.size=w3.heap.size:=by simp[World.setCell]
      have y0:((w3.setCell ⟨wr.heap.size,0,none⟩ (.string ⟨nm.toArray⟩)).setCell ⟨wr.heap.size,1,none⟩ (.slice An (insN x l).length cn)).cell? ⟨wr.heap.size,0,none⟩=some (.string ⟨nm.toArray⟩):=(cell_of_row _ wr.heap.size 0 _ _ (0,0) hbk4).trans rfl;have y1:((w3.setCell ⟨wr.heap.size,0,none⟩ (.string ⟨nm.toArray⟩)).setCell ⟨wr.heap.size,1,none⟩ (.slice An (insN x l).length cn)).cell? ⟨wr.heap.size,1,none⟩=some (.slice An (insN x l).length cn):=(cell_of_row _ wr.heap.size 1 _ _ (0,0) hbk4).trans rfl;have HIL:=qH (insN_length x l);clear hnv hb3 hg3 hg4 hown4 hbO hbw HO3;go_upto_region 15 with fail;clear x0 x1 xf hblk3 hbk4;generalize(w3.setCell ⟨wr.heap.size,0,none⟩ (.string ⟨nm.toArray⟩)).setCell ⟨wr.heap.size,1,none⟩ (.slice An (insN x l).length cn)=w4 at*;have hb4:Below w.heap.size w w4:=Below.grown hbel HG4.out (by omega) (fun k hk=>by cases hk);have hs4':=HG4.out.size;clear hs4;go_wp2_with(at_builtin;refine wpList_app (P:=Tryz.prog) rfl (.tmp 69) (.tmp 71) 61 rfl 130 i0 _ 2 40 Tryz.underlying61 HI.out HZ0.out HZ1.out HZ2.out rfl (by decide) w.heap.size _ out.length (hadCells out) rfl ?c1 (w4.heap.size+1) _ _ _ [.string ⟨nm.toArray⟩,.slice An (insN x l).length cn] rfl ?c2 ?c3 ?c4 ?c5 ?c6 ?_);case c1=>exact World.ownsRow.alloc HO4.out _
      case c2=>exact Cel.new (size:=2) (n:=1) w4 #[.string ⟨nm.toArray⟩,.slice An (insN x l).length cn] 130 (by unfold maxLen;omega) rfl
      case c3=>first|exact⟨rfl,rfl⟩|(simp[Value.oneCell'])
      case c4=>unfold maxLen;omega
      case c5=>omega
      case c6=>first|omega|(simp;omega)
      intro v9 w9 how9 hgw9 _;have hg9:=((World.grownBy_alloc w4 (.cells #[.string ⟨nm.toArray⟩,.slice An (insN x l).length cn] 130) none).but _).andThen hgw9 (fun j hj=>.inr hj);have hb9:Below w.heap.size w w9:=Below.grown hb4 hg9 (by have:=hb4.size;omega) (fun j hj=>(HO4.out.lt j hj).1);have hnew:w9.ownsRow w.heap.size 3 1 (.slice An (insN x l).length cn) (insN x l).length (numCells (insN x l)):=by have h1:=World.ownsRow.kept HN4.out hg9 (ownsRow_apart HN4.out HO4.out (by decide));exact own_low h1 (by rw[hsA];omega)
      have HR:=qH (show PtRelH w R nm v v9 (.bool true) (.int .i64 ((k+1:Nat):Int)) w9 from⟨k+1,true,out++[(nm,insN x l,Value.slice An (insN x l).length cn)],rfl,by have:=HL.out;omega,rfl,by rw[hadCells_snoc,List.length_append];exact how9,hb9,by simp;omega,by rw[HP.out,keysH_append,HDR.out];simp only[Bool.false_eq_true,if_false,if_true];rw[show keysH ((nm,l,Value.slice Ay l.length cy)::R.drop (k+1))=(nm,l)::keysH (R.drop (k+1))from rfl,putB_eq (k:=nm) (y:=(nm,l)) (by have h2:=HUK.out;rw[HDR.out]at h2;exact h2) rfl,HVX.out];simp[keysH],fun q hq=>by
       rcases List.mem_append.1 hq with hq|hq
       ·rcases HOLD.out q hq with h|⟨h1,h2,h3⟩;·exact .inl h
        ·refine .inr ⟨h1,h2,?_⟩;have h4:=World.ownsRow.kept h3 HG4.out (by rcases h3.2 with⟨e,_⟩|⟨g,cap,cur,e,_⟩<;>(rw[e];simp[Value.ownBlock]));exact World.ownsRow.kept h4 hg9 (ownsRow_apart h4 HO4.out (by decide))
       ·rw[List.mem_singleton]at hq;rw[hq];exact .inr ⟨rfl,HVX.out.symm,by rw[HVX.out];exact hnew⟩,fun h=>(by cases h),fun _=>HNX.out⟩);clear how9 hgw9 hg9 hb9 hnew y0 y1 e0' e1' HN4 HO4;go_wp2;go_roundw;case rel=>exact HR.out
      case measure=>simp[intOf];omega
     ·have HGT:=qH (show bytesBefore nm s=true by
       rcases bb_total hes with h'|h';·exact h'
       ·exact absurd h' hlt);have b1:(nm==s)=false:=by simp[hes]
      have b0:Op.bytesLess s nm=false:=by rw[hblb];simpa using hlt
      clear hlt hes hblb;go_wp2_with(at_builtin;refine wpList_app (P:=Tryz.prog) rfl (.tmp 69) (.tmp 71) 61 rfl 130 i0 _ 2 40 Tryz.underlying61 HI.out HZ0.out HZ1.out HZ2.out rfl (by decide) w.heap.size _ out.length (hadCells out) rfl ?c1 (wr.heap.size+2) _ _ _ [.string ⟨nm.toArray⟩,.slice Ay l.length cy] rfl ?c2 ?c3 ?c4 ?c5 ?c6 ?_);case c1=>exact World.ownsRow.alloc (World.ownsRow.alloc HO.out _) _
      case c2=>exact(by have:=Cel.new (size:=2) (n:=1) (wr.alloc (.cells #[.string ⟨nm.toArray⟩,.slice Ay l.length cy] 130)) #[.string ⟨nm.toArray⟩,.slice Ay l.length cy] 130 (by unfold maxLen;omega) rfl;simpa using this)
      case c3=>first|exact⟨rfl,rfl⟩|(simp[Value.oneCell'])
      case c4=>unfold maxLen;omega
      case c5=>omega
      case c6=>first|omega|(simp;omega)
      intro v9 w9 how9 hgw9 _;have hbA:wr.grownBy ((wr.alloc (.cells #[.string ⟨nm.toArray⟩,.slice Ay l.length cy] 130)).alloc (.cells #[.string ⟨nm.toArray⟩,.slice Ay l.length cy] 130)) none:=(World.grownBy_alloc wr _ none).trans (World.grownBy_alloc _ _ none);have hg9:=(hbA.but _).andThen hgw9 (fun j hj=>.inr hj);have hb9:Below w.heap.size w w9:=Below.grown hbel hg9 (by have:=hbel.size;omega) (fun j hj=>(HO.out.lt j hj).1);have HR:=qH (show PtRelH w R s v v9 (.bool false) (.int .i64 ((k+1:Nat):Int)) w9 from⟨k+1,false,out++[(nm,l,Value.slice Ay l.length cy)],rfl,by have:=HL.out;omega,rfl,by rw[hadCells_snoc,List.length_append];exact how9,hb9,by simp;omega,by rw[HP.out,keysH_append,HDR.out];simp only[Bool.false_eq_true,if_false];rw[show keysH ((nm,l,Value.slice Ay l.length cy)::R.drop (k+1))=(nm,l)::keysH (R.drop (k+1))from rfl,putB_gt HGT.out];simp[keysH],fun q hq=>by
       rcases List.mem_append.1 hq with hq|hq;·exact(HOLD.out q hq).keep HO.out hg9
       ·rw[List.mem_singleton]at hq;rw[hq];exact .inl HMEM.out,fun _=>⟨by simp;omega,fun q hq=>by
       rw[HTK.out]at hq;rcases List.mem_append.1 hq with hq|hq;·exact HTB.out q hq
       ·rw[List.mem_singleton]at hq;rw[hq];exact HGT.out⟩,fun h=>(by cases h)⟩);clear how9 hgw9 hbA hg9 hb9 e0' e1';go_wp2;go_roundw;case rel=>exact HR.out
      case measure=>simp[intOf];omega
   ·have HNE:=qH (HDT.out rfl (nm,l,.slice Ay l.length cy) (by rw[HDR.out];simp));have b1:(nm==s)=false:=by simpa using HNE.out
    have HDU:=qH (HDT.out rfl);clear HDF HDT;go_wp2_with(at_builtin;refine wpList_app (P:=Tryz.prog) rfl (.tmp 69) (.tmp 71) 61 rfl 130 i0 _ 2 40 Tryz.underlying61 HI.out HZ0.out HZ1.out HZ2.out rfl (by decide) w.heap.size _ out.length (hadCells out) rfl ?c1 (wr.heap.size+2) _ _ _ [.string ⟨nm.toArray⟩,.slice Ay l.length cy] rfl ?c2 ?c3 ?c4 ?c5 ?c6 ?_);case c1=>exact World.ownsRow.alloc (World.ownsRow.alloc HO.out _) _
    case c2=>exact(by have:=Cel.new (size:=2) (n:=1) (wr.alloc (.cells #[.string ⟨nm.toArray⟩,.slice Ay l.length cy] 130)) #[.string ⟨nm.toArray⟩,.slice Ay l.length cy] 130 (by unfold maxLen;omega) rfl;simpa using this)
    case c3=>first|exact⟨rfl,rfl⟩|(simp[Value.oneCell'])
    case c4=>unfold maxLen;omega
    case c5=>omega
    case c6=>first|omega|(simp;omega)
    intro v9 w9 how9 hgw9 _;have hbA:wr.grownBy ((wr.alloc (.cells #[.string ⟨nm.toArray⟩,.slice Ay l.length cy] 130)).alloc (.cells #[.string ⟨nm.toArray⟩,.slice Ay l.length cy] 130)) none:=(World.grownBy_alloc wr _ none).trans (World.grownBy_alloc _ _ none);have hg9:=(hbA.but _).andThen hgw9 (fun j hj=>.inr hj);have hb9:Below w.heap.size w w9:=Below.grown hbel hg9 (by have:=hbel.size;omega) (fun j hj=>(HO.out.lt j hj).1);have HR:=qH (show PtRelH w R s v v9 (.bool true) (.int .i64 ((k+1:Nat):Int)) w9 from⟨k+1,true,out++[(nm,l,Value.slice Ay l.length cy)],rfl,by have:=HL.out;omega,rfl,by rw[hadCells_snoc,List.length_append];exact how9,hb9,by simp;omega,by rw[HP.out,keysH_append,HDR.out];simp[keysH],fun q hq=>by
     rcases List.mem_append.1 hq with hq|hq;·exact(HOLD.out q hq).keep HO.out hg9
     ·rw[List.mem_singleton]at hq;rw[hq];exact .inl HMEM.out,fun h=>(by cases h),fun _ q hq=>HDU.out q (by rw[HDR.out];exact List.mem_cons_of_mem _ hq)⟩);clear how9 hgw9 hbA hg9 hb9 e0' e1';go_wp2;go_roundw;case rel=>exact HR.out
    case measure=>simp[intOf];omega
  ·have t1: ¬(k:Int)<n:=by omega
   have HDR:=qH (show R.drop k=[]from List.drop_eq_nil_iff.2 (by have:=HL.out;omega));cases done
   ·have hdl:=(HDF.out rfl).1;have HTB:=qH (HDF.out rfl).2;clear HDF HDT;have HNK:=qH (show∀q∈R,q.1≠s from fun q hq he=>by rw[←List.take_append_drop k R,HDR.out,List.append_nil]at hq;have:=HTB.out q hq;rw[he,bb_irrefl]at this;cases this);have HVX:=qH (show v=[x]by rw[←HV.out,rowH_none HNK.out];rfl);go_wp2_with(at_builtin;refine wpList_app (P:=Tryz.prog) rfl (.tmp 75) (.tmp 80) 61 rfl 130 i0 _ 2 40 Tryz.underlying61 HI.out HZ0.out HZ1.out HZ2.out rfl (by decide) w.heap.size _ out.length (hadCells out) rfl ?c1 (wr.heap.size+2) _ _ _ [.string ⟨s.toArray⟩,.slice (some ⟨wr.heap.size,0,none⟩) 1 1] rfl ?c2 ?c3 ?c4 ?c5 ?c6 ?_);case c1=>exact World.ownsRow.alloc (World.ownsRow.alloc HO.out _) _
    case c2=>(have:=Cel.new (size:=2) (n:=1) (wr.alloc (.cells #[.int .i64 x] 3)) #[.string ⟨s.toArray⟩,.slice (some ⟨wr.heap.size,0,none⟩) 1 1] 130 (by unfold maxLen;omega) rfl;simpa using this)
    case c3=>first|exact⟨rfl,rfl⟩|(simp[Value.oneCell'])
    case c4=>unfold maxLen;omega
    case c5=>omega
    case c6=>first|omega|(simp;omega)
    intro v2 w2 how2 hgw2 _;have hbA:wr.grownBy ((wr.alloc (.cells #[.int .i64 x] 3)).alloc (.cells #[.string ⟨s.toArray⟩,.slice (some ⟨wr.heap.size,0,none⟩) 1 1] 130)) none:=(World.grownBy_alloc wr _ none).trans (World.grownBy_alloc _ _ none);have hg2:=(hbA.but _).andThen hgw2 (fun j hj=>.inr hj);have hb2:Below w.heap.size w w2:=Below.grown hbel hg2 (by omega) (fun j hj=>(HO.out.lt j hj).1);have hnew:w2.ownsRow w.heap.size 3 1 (.slice (some ⟨wr.heap.size,0,none⟩) 1 1) 1 (numCells [x]):=by have h1:(wr.alloc (.cells #[.int .i64 x] 3)).ownsRow w.heap.size 3 1 (.slice (some ⟨wr.heap.size,0,none⟩) 1 1) 1 (numCells [x]):=World.ownsRow_lit wr #[.int .i64 x] 1 hsz (by simp[maxLen]) rfl;have h2:=World.ownsRow.alloc h1 (.cells #[.string ⟨s.toArray⟩,.slice (some ⟨wr.heap.size,0,none⟩) 1 1] 130);exact World.ownsRow.kept h2 hgw2 (ownsRow_apart h2 (World.ownsRow.alloc (World.ownsRow.alloc HO.out _) _) (by decide))
    have HO2:=qH (show w2.ownsRow w.heap.size 130 2 v2 (out++[(s,[x],Value.slice (some ⟨wr.heap.size,0,none⟩) 1 1)]).length (hadCells (out++[(s,[x],Value.slice (some ⟨wr.heap.size,0,none⟩) 1 1)]))by rw[hadCells_snoc,List.length_append];exact how2);have HOLD2:=qH (show∀q∈out++[(s,[x],Value.slice (some ⟨wr.heap.size,0,none⟩) 1 1)],OldNew w R s v w2 q from fun q hq=>by
     rcases List.mem_append.1 hq with hq|hq;·exact(HOLD.out q hq).keep HO.out hg2
     ·rw[List.mem_singleton]at hq;rw[hq];exact .inr ⟨rfl,HVX.out.symm,by rw[HVX.out];exact hnew⟩);have HR:=qH (show PutPostH w S R s v (.returned (.tuple #[v2,.bool true])) w2 from PutPostH.of HH.out.row HO2.out hb2 (by rw[HP.out,HDR.out,keysH_append];simp only[Bool.false_eq_true,if_false];rw[HVX.out];rfl) HOLD2.out (by have:=HL.out;simp;omega));clear how2 hgw2 hbA hg2 hnew hb2;go_wp2;go_ret2;exact HR.out
   ·have HR:=qH (show PutPostH w S R s v (.returned (.tuple #[u8,.bool true])) wr from PutPostH.of HH.out.row HO.out hbel (by have:=HP.out;rw[HDR.out]at this;simpa[keysH]using this.symm) HOLD.out (by have:=HL.out;omega));go_wp2;go_ret2;exact HR.out
end Go.Proofs.YtbejfgmdkmddnaaGreatDoor
