/-
  The tops: logged: a journal of events on a new disk; same: the same events.
-/
import Derived.Test.YtajihpcdplpcdaaGreatDoorTDk6
import Derived.Test.YtajihpcdplpcdaaGreatDoorTKeys
import Derived.Test.YtajihpcdplpcdaaGreatDoorTJl5
import Derived.Test.YtajihpcdplpcdaaGreatDoorTJlRd
import Derived.Test.YtajihpcdplpcdaaGreatDoorTEvLen
import Derived.Test.YtajihpcdplpcdaaGreatDoorTClkTick
import Derived.Test.YtajihpcdplpcdaaGreatDoorTItkOff0
import Derived.Test.YtajihpcdplpcdaaGreatDoorTTopPl
import Derived.Test.YtajihpcdplpcdaaGreatDoorTEvForget
import Derived.Test.YtajihpcdplpcdaaGreatDoorTEvMay
set_option maxRecDepth 100000
set_option maxHeartbeats 16000000
namespace Go.Proofs.YtajihpcdplpcdaaGreatDoor
open Go.RowKit Go.Maps Go.Sort Go.Shelf
theorem dknames_any(w:World)(G:Nat→Prop)(bd:Nat)(d:Dk)(h:DkIn w G bd d):Calls Tryz.prog 64 #[.pointer (some ⟨bd,0,none⟩)] w (SrcPost w (d.files.map (·.1))):=by
 obtain⟨ho,bm,B,V,h⟩:=h;have hml:=ho.num;have c0:=h.cells.1;obtain⟨row,hrw⟩: ∃row:Row Value,row=d.files.map fun p=>(p.1,.pointer (some ⟨B p.1,0,none⟩)):=⟨_,rfl⟩;have HD:=qH (show w.ownsMap Tryz.prog 9 raw bm row.length (mapD row)by rw[hrw];exact h.map);have hds:Maps.size (mapD row)=d.files.length:=by rw[hrw];simp[mapD,Maps.size]
 have HRW:=qH (show row.map (·.1)=d.files.map (·.1)by rw[hrw];simp);clear hrw;have HKR:=qH (keys_rising h.up);have hnd:(d.files.map (·.1)).Nodup:=(List.pairwise_map.2 (h.up.imp fun{a b}h e=>by rw[e,bb_irrefl]at h;cases h));have HND:=qH hnd;clear h hnd ho;refine(callsIn_wide (n:=6)).1 ?_;have hfK:Fence.wide.fn 113:=trivial;have hfS:Fence.wide.fn 109:=trivial;refine callsIn_of_wp Tryz.func64 rfl trivial ?_ rfl;simp only[Tryz.ntmps64,List.size_toArray,List.length_cons,List.length_nil,Nat.reduceAdd,Nat.reduceSub,Array.replicate_succ,Array.replicate_zero,List.push_toArray,List.append_toArray,List.nil_append,List.cons_append];have HDS:=qH hds;clear hds;gi_wp2_with fail;refine(Tryz.maps_Keys_113 _ _).mono ?_;rintro e w2⟨rfl,rfl⟩;gi_wp2_with fail;refine(Tryz.slices_Sorted_keys_109_113 bm row.length (mapD row) raw w HD.out (by rw[HDS.out];unfold maxLen;omega) (by rw[HDS.out];omega)).mono ?_;rintro e w3⟨v,ss,rfl,hS,hrow,hnil,hb3⟩;clear c0;gi_wp2_with fail;go_ret;rw[strKeys_mapD]at hS;rw[HRW.out]at hS;have hr:=rising_sort (hS.nodup_iff.2 HND.out) (fun x=>hS.mem_iff);have he:=rising_unique hr HKR.out;rw[he]at hrow;have hl:ss.length=(d.files.map (·.1)).length:=hS.length_eq;rw[hl]at hrow;refine⟨v,rfl,?_,((Below.refl _ _).alloc (Nat.le_refl _) _).trans (hb3.mono (by simp))⟩;refine⟨hrow.1,?_⟩;rcases hrow.2 with⟨e,hl⟩|⟨g,cap,cur,e,hb',hg,hrr⟩;·exact .inl ⟨e,hl⟩
 ·exact .inr ⟨g,cap,cur,e,by simp at hb';omega,hg,hrr⟩
def DkNewPost(w:World)(e:Ending)(w':World):Prop:= ∃bd G,e=.returned (.pointer (some ⟨bd,0,none⟩))∧DkIn w' G bd Dk.new∧(∀b,G b→w.heap.size≤b)∧Below w.heap.size w w'
theorem dknew_any(w:World):Calls Tryz.prog 7 #[] w (DkNewPost w):=by
 have hmm:= @run_makeMap Tryz.prog;have HR:=qH (show DkNewPost w (.returned (.pointer (some ⟨w.heap.size+1,0,none⟩))) ((w.alloc (.map #[] 0)).alloc (dkObj w.heap.size Dk.new))by
  have hb:Below w.heap.size w ((w.alloc (.map #[] 0)).alloc (dkObj w.heap.size Dk.new)):=((Below.refl _ _).alloc (Nat.le_refl _) _).alloc (by simp) _;refine⟨w.heap.size+1,fun b=>b=w.heap.size∨b=w.heap.size+1,rfl,⟨Dk.ok_new,w.heap.size,fun _=>0,fun _=>.slice none 0 0,?_⟩,fun b hb=>by omega,hb⟩;have hm:MapS ((w.alloc (.map #[] 0)).alloc (dkObj w.heap.size Dk.new)) w.heap.size []:=(MapS.made w).block (heap_alloc_old _ _ (by simp));have hd:((w.alloc (.map #[] 0)).alloc (dkObj w.heap.size Dk.new)).heap[w.heap.size+1]?=some (dkObj w.heap.size Dk.new):=by have:=heap_alloc_new (w.alloc (.map #[] 0)) (dkObj w.heap.size Dk.new);simpa using this
  exact⟨hd,hm,by simp[Dk.new],by simp[Dk.new],by simp[Dk.new],by simp[Dk.new],.inr rfl,.inl rfl,by simp[Dk.new],by simp[Dk.new],fun b hb=>by simp;omega,by simp[Dk.new,RowUp],by omega,by simp[Dk.new],by simp[Dk.new]⟩);go_enter Tryz.func7,Tryz.ntmps7;go_wp2;go_ret;exact HR.out
theorem jlfind0_any(w:World)(G F:Nat→Prop)(bj bd:Nat)(j:Jl)(h:JlIn w G F bj bd j)(hf:j.dk.files=[])(hfl:j.files=0):Calls Tryz.prog 35 #[.pointer (some ⟨bj,0,none⟩)] w fun e w'=>e=.returned (.bool true)∧JlD w G F bj bd j w':=by
 have hmm:= @run_makeMap Tryz.prog;have HI:=qH h;have hlt:=h.lt;obtain⟨ho,v,hj⟩:=h;obtain⟨c0,c1,c2,c3,c4,c5,c6⟩:=hj.cells;have c3f:=hj.frozen 3;have hbj:=hj.lt _ hj.fj;have HDK:=qH hj.dk;have HJ:=qH hj;have HO:=qH ho;have hb1:Below w.heap.size w (w.alloc (.map #[] 0)):=(Below.refl _ _).alloc (Nat.le_refl _) _;have HB1:=qH hb1;have HNM:=qH (show Calls Tryz.prog 64 #[.pointer (some ⟨bd,0,none⟩)] (w.alloc (.map #[] 0)) (SrcPost (w.alloc (.map #[] 0)) [])from by have:=dknames_any (w.alloc (.map #[] 0)) G bd j.dk (hj.dk.up hb1);rw[hf]at this;exact this);clear ho hj c1 c2 c4 c5 c6 hb1 hlt;go_enter Tryz.func35,Tryz.ntmps35;go_wp2_with fail;with_reducible refine HNM.out.mono ?_
 rintro r w2⟨vn,rfl,hrow,hb2⟩;obtain⟨An,cn,hvn⟩:=ownsRow_form hrow;have HB2:=qH (HB1.out.trans (hb2.mono HB1.out.size));have hm2:MapS w2 w.heap.size []:=((MapS.made w).block (hb2.block _ (by simp)));have hlen: ∀ty,(Builtin.len_ #[79] ty #[.map (some w.heap.size)]).run Tryz.prog w2=.ok (.int .i64 0) w2:=fun ty=>hm2.len 79 _ Tryz.underlying79 ty;have d3:w2.cell? ⟨bj,3,none⟩=some (.int .i64 j.files):=(HB2.out.cell (p:=⟨bj,3,none⟩) hbj).trans c3;have d3f:w2.frozen? ⟨bj,3,none⟩=false:=(HB2.out.frozen (p:=⟨bj,3,none⟩) hbj).trans c3f;subst hvn;have HR:=qH (show JlD w G F bj bd j (w2.setCell ⟨bj,3,none⟩ (.int .i64 0))from by have h2:=HJ.out.up HB2.out;refine⟨G,F,⟨HO.out,v,h2.setc rfl rfl ?_⟩,fun _ h=>.inl h,fun _ h=>.inl h,(Keep.of_below HB2.out).setCell (p:=⟨bj,3,none⟩) (fun _=>.inr HJ.out.fj) _⟩;rw[heap_set_row h2.blk,hfl];simp[jlObj,hfl]);clear c0 c3 c3f hrow hb2 hm2;go_wp2;go_loopw[16](fun i wr=>i=.int .i64 0∧wr=w2)(fun _ _=>0);case atStart=>exact⟨rfl,rfl⟩
 case round=>
  obtain⟨rfl,rfl⟩:=hrel;go_wp2;go_loopw[40](fun i wz=>i=.int .i64 0∧wz=wr)(fun _ _=>0);case atStart=>exact⟨rfl,rfl⟩
  case round=>obtain⟨rfl,rfl⟩:=hrel;go_wp2;go_ret;exact⟨rfl,HR.out⟩
def OpenPost(w:World)(G:Nat→Prop)(bd:Nat)(j:Jl)(e:Ending)(w':World):Prop:= ∃bj G' F,e=.returned (.tuple #[.pointer (some ⟨bj,0,none⟩),.int .i64 0])∧JlIn w' G' F bj bd j∧(∀b,G' b→G b∨w.heap.size≤b)∧(∀b,F b→w.heap.size≤b)∧Keep G w w'
theorem jlopen0_any(w:World)(G:Nat→Prop)(bd:Nat)(d:Dk)(h:DkIn w G bd d)(hf:d.files=[])(hd:d.down=false)(s:List UInt8)(hs:nameB s=true)(per:Nat)(hp:1≤per)(hp2:per≤4096):Calls Tryz.prog 17 #[.pointer (some ⟨bd,0,none⟩),.string ⟨s.toArray⟩,.int .i64 per] w (OpenPost w G bd (Jl.new d s per)):=by
 have hnl:=(nameB_len hs).2;have HNB:=qH (show Calls Tryz.prog 33 #[.string ⟨s.toArray⟩] w fun e w'=>e=.returned (.bool true)∧w=w' from by have:=name_all w s;rw[hs]at this;exact this);have HDN:=qH (show Calls Tryz.prog 34 #[.pointer (some ⟨bd,0,none⟩)] w fun e w'=>e=.returned (.bool false)∧w=w' from by obtain⟨_,bm,B,V,h⟩:=h;have:=dkdown_any w G bd bm d B V h;rw[hd]at this;exact this);have hlt:=h.lt;have hb1:Below w.heap.size w (w.alloc (jlObj bd (.slice none 0 0) (Jl.new d s per))):=(Below.refl _ _).alloc (Nat.le_refl _) _;have HJ1:=qH (show JlIn (w.alloc (jlObj bd (.slice none 0 0) (Jl.new d s per))) G (·=w.heap.size) w.heap.size bd (Jl.new d s per)from by
  refine⟨⟨hp,hp2,hnl,by simp[Jl.new],by simp[Jl.new],by simp[Jl.new],by simp[Jl.new]⟩,.slice none 0 0,⟨h.up hb1,heap_alloc_new w _,World.ownsRow_nil _ _ _ _,rfl,fun b hb=>(by cases hb),fun b hb hg=>?_,fun b hb=>?_⟩⟩;·have:=hlt b hg;subst hb;omega
  ·subst hb;simp);have HB1:=qH hb1;have HF:=qH (jlfind0_any _ G (·=w.heap.size) w.heap.size bd (Jl.new d s per) HJ1.out hf rfl);have HLT:=qH hlt;clear hb1 h hs hf hd hlt;go_enter Tryz.func17,Tryz.ntmps17;go_wp2_with fail;refine HNB.out.mono ?_;rintro r w0⟨rfl,rfl⟩;go_wp2_with fail;refine HDN.out.mono ?_;rintro r w0⟨rfl,rfl⟩;go_wp2_with fail;refine HF.out.mono ?_;rintro r w2⟨rfl,hd2⟩;obtain⟨G2,F2,⟨ho2,v2,hj2⟩,hG2,hF2,hk2⟩:=hd2;have hs1:=HB1.out.size;obtain⟨c0,c1,c2,c3,c4,c5,c6⟩:=hj2.cells;obtain⟨A2,cp2,hv2⟩:=ownsRow_form hj2.own;have c5f:=hj2.frozen 5;have HR:=qH (show OpenPost w G bd (Jl.new d s per) (.returned (.tuple #[.pointer (some ⟨w.heap.size,0,none⟩),.int .i64 0])) (w2.setCell ⟨w.heap.size,5,none⟩ (.int .i64 0))from by
  refine⟨w.heap.size,G2,F2,rfl,⟨ho2,v2,hj2.setc rfl rfl ?_⟩,fun b hb=>?_,fun b hb=>?_,?_⟩;·rw[heap_set_row hj2.blk];rfl
  ·rcases hG2 b hb with h|h;·exact .inl h
   ·right;omega
  ·rcases hF2 b hb with h|h;·omega
   ·omega
  ·refine((Keep.of_below HB1.out).trans hk2 (fun b hb hg=>?_)).setCell (p:=⟨w.heap.size,5,none⟩) (fun hb=>?_) _
   ·rcases hg with h|h;·exact h
    ·omega
   ·exact absurd hb (by show¬w.heap.size<w.heap.size;omega));rw[hv2]at c4;have hne:(Jl.new d s per).es.length=0:=rfl;rw[hne]at c4;have hnf:(((Jl.new d s per).files:Nat):Int)=0:=rfl;rw[hnf]at c3;clear hj2 ho2 hG2 hF2 hk2 hv2 c0 c1 c2 c6 hne hnf;go_wp2;go_loopw[40](fun i wz=>i=.int .i64 0∧wz=w2)(fun _ _=>0);case atStart=>exact⟨rfl,rfl⟩
 case round=>obtain⟨rfl,rfl⟩:=hrel;go_wp2;go_ret2;exact HR.out
theorem mayB_small33{e:Ev}(h:mayB e=true):e.small:=by have:=mayB_fit h;exact⟨by have:=this.src;omega,by have:=this.per;omega,by have:=this.item;omega,by have:=this.text;omega⟩
theorem now_any(w:World)(bc bm:Nat)(c:Clk)(hc:ClockAt w bc bm c):Calls Tryz.prog 48 #[.pointer (some ⟨bc,0,none⟩)] w fun e w'=>e=.returned (.int .i64 c.now)∧w=w':=by obtain⟨c0,c1,c2,c3,c4,f2,f3⟩:=hc.cells;clear hc;go_enter Tryz.func48,Tryz.ntmps48;go_wp2;go_ret;exact⟨rfl,rfl⟩
theorem now_same(w:World)(bc bm:Nat)(c:Clk)(hc:ClockAt w bc bm c):Calls Tryz.prog 48 #[.pointer (some ⟨bc,0,none⟩)] w fun e w'=>e=.returned (.int .i64 c.now)∧w'=w:=(now_any w bc bm c hc).mono fun _ _ h=>⟨h.1,h.2.symm⟩
theorem admit_any(w:World)(F:Nat→Prop)(bi N:Nat)(x:Itk)(h:ItkAt w F bi N x)(hN:N+2<100000)(e:Ev)(hsm:e.small)(hmx:MaxAt w):Calls Tryz.prog 22 #[.pointer (some ⟨bi,0,none⟩),e.agg] w (OfferPost w F bi (N+2) (x.admits e) (x.admitted e)):=by
 have HI0:=qH h;obtain⟨A,hM,hO,hnl,hng,hfoot,hFlt⟩:=h;have HM:=qH hM;have HO:=qH hO;have HFO:=qH hfoot;have HFL:=qH hFlt;have HMX:=qH hmx;have hlt:bi<w.heap.size:=hM.lt (.inl rfl);clear hM hO hfoot hFlt hmx;have HOF:=qH (show x.admits e=if x.refuses e then x else(x.hear e x.clk.now).took e from rfl);have HOV:=qH (show x.admitted e=if x.refuses e then x.verdict e else 0 from rfl);have nF: ¬F w.heap.size:=fun h=>by have:=HFL.out _ h;omega
 unfold Ev.agg;go_enter Tryz.func22,Tryz.ntmps22;have hbA:Below w.heap.size w (w.alloc (evObj e)):=(Below.refl _ _).alloc (Nat.le_refl _) _;have hsA:(w.alloc (evObj e)).heap.size=w.heap.size+1:=by simp
 have HE1:=qH (EvIn.new w e);have HI1:=qH (HI0.out.up hbA);have HM1:=qH (HM.out.up hbA);have HMX1:=qH (HMX.out.up hbA);have HK1:=qH (show Keep F w (w.alloc (evObj e))from Keep.of_below (F:=F) hbA);obtain⟨e0,e1,e2,e3,e4,e5,e6,e7⟩:=HE1.out;go_wp2_with fail;clear hbA;generalize w.alloc (evObj e)=w1 at*;refine(refused_any w1 F bi N x HI1.out (by omega) e hsm HMX1.out).mono ?_;rintro r w2⟨rfl,hb2⟩;have HI2:=qH (HI1.out.up hb2);have HM2:=qH (HM1.out.up hb2);have HK2:=qH (HK1.out.trans (Keep.of_below (F:=F) hb2) (fun _ _ h=>h));have HE2:=qH (HE1.out.below hb2 (by omega));have hs2:=hb2.size;clear e0 e1 e2 e3 e4 e5 e6 e7 hb2;cases href:x.refuses e
 ·have HREF:=qH href;have hww:x.wrong e=false∧hadB x.had e.src e.num=false:=by unfold Itk.refuses at href;simpa using href
  have HMAY:=qH (show mayB e=true by have:=hww.1;unfold Itk.wrong at this;simp only[Bool.or_eq_false_iff,Bool.not_eq_false']at this;exact this.1.1);have HHAD:=qH hww.2;clear href hww;obtain⟨c0,c1,c2,c3,c4,c5,f2,f3,f4⟩:=HM2.out.cells;obtain⟨e0,e1,e2,e3,e4,e5,e6,e7⟩:=HE2.out;have HNW:=qH (show Calls Tryz.prog 48 #[.pointer (some ⟨A.bc,0,none⟩)] (w2.drewN 1) fun e w'=>e=.returned (.int .i64 x.clk.now)∧w'=w2.drewN 1 from now_same _ A.bc A.bm x.clk (HM2.out.up (below_drewN (Below.refl _ _) 1)).clk);go_wp2;go_still_tail 13,(by kernel_rfl);still_call HNW.out;repeat still_step
  refine wpStill_nil ?_;change wpList _ _ _ _ _ (w2.drewN 1);have hbq:Below w2.heap.size w2 (w2.drewN 1):=below_drewN (Below.refl _ _) 1;clear e0 e1 e2 e3 e4 e5 e6 e7 c0 c1 c2 c3 c4 c5 f2 f3 f4 HNW;have HM3:=qH (HM2.out.up hbq);have HE3:=qH (HE2.out.below hbq (by omega));have HK3:=qH (HK2.out.trans (Keep.of_below (F:=F) hbq) (fun _ _ h=>h));have hs3:=hbq.size;clear hbq;generalize w2.drewN 1=w3 at*;go_wp2_with fail;refine(hear_any w3 A.bc A.bm x.clk HM3.out.clk e.src e.at_ x.clk.now (by have:=HO.out.src;omega)).mono ?_;rintro r w4⟨rfl,hc4,hk4⟩;have hok4:ItkOk (N+1) (x.hear e x.clk.now):=HO.out.hear e x.clk.now;obtain⟨hI4,hM4,hK4⟩:=ItkAt.setClk (N:=N) (M:=N+1) HM3.out hnl hng (by omega) HFO.out (fun b hb=>by have:=HFL.out b hb;omega) hc4 hk4 hok4;have HI4:=qH (show ItkAt w4 F bi (N+1) (x.hear e x.clk.now)from hI4);have HK4:=qH (HK3.out.trans hK4 (fun _ _ h=>h));have HE4:=qH (ev_out hK4 (by omega) nF HE3.out);have hs4:=hK4.size;have HH4:=qH (show(x.hear e x.clk.now).had=x.had from rfl);have HR:=qH (show x.admits e=(x.hear e x.clk.now).took e by rw[HOF.out,HREF.out];rfl);have HV:=qH (show x.admitted e=0 by rw[HOV.out,HREF.out];rfl);clear hc4 hk4 hI4 hM4 hK4 hok4;generalize x.hear e x.clk.now=z at*;obtain⟨e0,e1,e2,e3,e4,e5,e6,e7⟩:=HE4.out;go_wp2_with fail;refine(take_any w4 F bi (N+1) z HI4.out (by omega) e hsm HMAY.out (by rw[HH4.out];exact HHAD.out)).mono ?_;rintro r w5⟨rfl,F5,hI5,hK5,hF5⟩;have HD:=qH (show Deeds w F bi (N+2) (x.admits e) w5 from⟨F5,by rw[HR.out];exact hI5,HK4.out.trans hK5 (fun _ _ h=>h),fun b hb=>(hF5 b hb).imp id (fun h=>by omega)⟩);clear hI5 hK5 hF5 e0 e1 e2 e3 e4 e5 e6 e7;go_wp2;go_ret;exact⟨ret_int HV.out.symm,HD.out⟩
 ·have HR:=qH (show x.admits e=x by rw[HOF.out,href];rfl);have HV:=qH (show x.admitted e=x.verdict e by rw[HOV.out,href];rfl);clear href;go_wp2;go_ret;exact⟨ret_int HV.out.symm,F,by rw[HR.out];exact HI2.out.more (by omega),HK2.out,fun b hb=>.inl hb⟩
theorem Evs.kp33{w w':World}{G:Nat→Prop}{A:Option Addr}{n c:Nat}{es:List Ev}(h:Evs w w.heap.size A n c es)(hA: ∀b off,A=some ⟨b,off,none⟩→ ¬G b)(hk:Keep G w w'):Evs w' w'.heap.size A n c es:=Cel.keepG h hA hk
theorem rdEv_some33: ∀l:List Ev,rdEv (l.map some)=l|[]=>rfl|e::l=>by have ih:=rdEv_some33 l;unfold rdEv at ih⊢;simp only[List.map_cons,List.filterMap_cons,id_eq];rw[ih]
abbrev rpObj(bj bi:Nat)(off:Int):Obj:=.cells #[.pointer (some ⟨bj,0,none⟩),.pointer (some ⟨bi,0,none⟩),.int .i64 off] 71
def RpRel(w1:World)(R:Nat→Prop)(bi N:Nat)(x:Itk)(evs:List Ev)(i:Value)(W:World):Prop:= ∃(k:Nat)(R':Nat→Prop),i=.int .i64 k∧k≤evs.length∧ItkAt W R' bi (N+2*k) (admAll x (evs.take k))∧Keep R w1 W∧ ∀b,R' b→R b∨w1.heap.size≤b
def RpReadPost(w:World)(R:Nat→Prop)(bi N:Nat)(x:Itk)(evs:List Ev)(e:Ending)(w':World):Prop:=e=.returned (.tuple #[])∧Deeds w R bi (N+2*evs.length) (admAll x evs) w'
theorem rpread_any(w:World)(G F R:Nat→Prop)(bj bd bi N:Nat)(j:Jl)(x:Itk)(hj:JlIn w G F bj bd j)(ds:List Ev)(hes:j.es=ds.map some)(hx:ItkAt w R bi N x)(off m:Nat)(hom:off+m≤ds.length)(hlen:ds.length≤60)(hN:N+200<100000)(hmx:MaxAt w)(hml: ¬R 1):Calls Tryz.prog 21 #[.pointer (some ⟨bj,0,none⟩),.int .i64 off,.int .i64 m,.func (.func 22) #[.pointer (some ⟨bi,0,none⟩)] #[]] w (RpReadPost w R bi N x ((ds.drop off).take m)):=by
 have hcall: ∀(args:Array Value)(w:World),(callFunc 22 args).run Tryz.prog w=.ok (.enter 22 args) w:=fun args w=>by kernel_rfl
 obtain⟨evs,hevs⟩: ∃evs,evs=(ds.drop off).take m:=⟨_,rfl⟩;have hel:evs.length=m:=by rw[hevs,List.length_take,List.length_drop];omega
 have HRD:=qH (show∃ats,Calls Tryz.prog 45 #[.pointer (some ⟨bj,0,none⟩),.int .i64 off,.int .i64 m] w (JRdPost w evs ats 0)from by
  have:=jlread_any w G F bj bd j hj off m;have hl:j.es.length=ds.length:=by rw[hes,List.length_map]
  have e1:j.rdBad off m=false:=by unfold Jl.rdBad;rw[hl];simp;omega
  have e2:j.rdSeg off m=evs.map some:=by
   unfold Jl.rdSeg;rw[hl,hes];have e3:(min (m:Int) ((ds.length:Int)-(off:Int))).toNat=m:=by omega
   rw[e3,Int.toNat_natCast,hevs,List.map_take,List.map_drop]
  unfold JReadPost at this;rw[e1,e2,rdEv_some33]at this;exact⟨_,this⟩);have HSM:=qH (show∀e∈evs,e.small from fun e he=>mayB_small33 (hj.1.may e (by rw[hes];exact List.mem_map.2 ⟨e,List.mem_of_mem_drop (List.mem_of_mem_take (hevs▸he)),rfl⟩)));have HX:=qH hx;have HMX:=qH hmx;have HML:=qH hml;have hRlt: ∀b,R b→b<w.heap.size:=by obtain⟨A,_,_,_,_,_,h6⟩:=hx;exact h6
 have HRL:=qH hRlt;rw[←hevs];obtain⟨ats,hrd⟩:=HRD.out;have HR:=qH hrd;have hm60:m≤60:=by omega
 have HEL:=qH hel;clear hj hes hx hmx hml hevs HRD hrd hRlt hel;go_enter Tryz.func21,Tryz.ntmps21;go_wp2_with fail;refine HR.out.mono ?_;rintro r w1⟨v1,v2,rfl,hv1,hv2,hb1⟩;obtain⟨B1,d1,hf1,_⟩:=hv1.form;subst hf1;have he1:Evs w1 w1.heap.size B1 evs.length d1 evs:=Cel.of_own hv1;rw[HEL.out]at he1⊢;have HE1:=qH he1;have HB1:=qH hb1;have hs1:=hb1.size;have HA1:=qH (show∀b off,B1=some ⟨b,off,none⟩→ ¬R b from fun b off e hR=>by
  have h1:=HRL.out b hR;rcases hv1.2 with⟨e',_⟩|⟨g,cap,cur,e',hbg,_⟩;·injection e' with e1 e2;rw[e1]at e;cases e
  ·injection e' with e1 e2;rw[e]at e1;injection e1 with e1;injection e1 with e1;omega);have HR0:=qH (show RpRel w1 R bi N x evs (.int .i64 0) w1 from⟨0,R,rfl,Nat.zero_le _,HX.out.up HB1.out,Keep.refl _ _,fun b hb=>.inl hb⟩);clear hv1 hv2 he1 hb1;go_wp2;go_loopw[23](fun i W=>RpRel w1 R bi N x evs i W)(fun i _=>m-(intOf i).toNat);case atStart=>exact HR0.out
 case round=>
  obtain⟨k,R',rfl,hk,hit,hkp,hR'⟩:=hrel;have HIT:=qH hit;have HKP:=qH hkp;have HRR:=qH hR';have hsr:=hkp.size;have hkm:k≤m:=by rw[←HEL.out];exact hk
  clear hit hkp hR';by_cases hkn:k<m
  ·have hkl:k<evs.length:=by rw[HEL.out];exact hkn
   have t1:(k:Int)<m:=by omega
   obtain⟨b,o,rfl,_,hd⟩:=(HE1.out.kp33 HA1.out HKP.out).ev k hkl;obtain⟨e0,e1,e2,e3,e4,e5,e6,e7⟩:=hd;have HTK:=qH (admAll_take x evs k hkl);have HSE:=qH (HSM.out evs[k] (List.getElem_mem hkl));generalize evs[k]=e at*;have hba:Below wr.heap.size wr (wr.alloc (evObj e)):=(Below.refl _ _).alloc (Nat.le_refl _) _;have HCA:=qH (admit_any (wr.alloc (evObj e)) R' bi (N+2*k) (admAll x (evs.take k)) (HIT.out.up hba) (by omega) e HSE.out (by have h1:MaxAt w1:=HMX.out.up HB1.out;exact(h1.out HKP.out HML.out).up hba));have HKA:=qH (HKP.out.trans (Keep.of_below (F:=R) hba) (fun _ _ h=>h));have hsa:(wr.alloc (evObj e)).heap.size=wr.heap.size+1:=by simp
   have HSA:=qH hsa;clear hba hsa;go_wp2_with fail;refine HCA.out.mono ?_;rintro r w2⟨rfl,R2,hI2,hk2,hR2⟩;have HREL:=qH (show RpRel w1 R bi N x evs (.int .i64 ((k+1:Nat):Int)) w2 from⟨k+1,R2,rfl,hkl,by rw[HTK.out,show N+2*(k+1)=N+2*k+2 by omega];exact hI2,HKA.out.trans hk2 (fun b hb hr=>(HRR.out b hr).elim id fun h=>by omega),fun b hb=>by
    rcases hR2 b hb with h|h;·exact HRR.out b h
    ·right;have:=HSA.out;omega⟩);clear hI2 hk2 hR2 e0 e1 e2 e3 e4 e5 e6 e7 HCA HKA;go_wp2;go_roundw;case rel=>exact HREL.out
   case measure=>simp[intOf];omega
  ·have t1: ¬(k:Int)<m:=by omega
   have HF:=qH (show RpReadPost w R bi N x evs (.returned (.tuple #[])) wr from⟨rfl,R',by have:=HIT.out;rw[List.take_of_length_le (by rw[HEL.out];omega)]at this;rw[HEL.out,show m=k by omega];exact this,(Keep.of_below (F:=R) HB1.out).trans HKP.out (fun _ _ h=>h),fun b hb=>(HRR.out b hb).imp id fun h=>by omega⟩);clear HIT;go_wp2;go_end0;exact HF.out
structure RpAt(w:World)(G F R:Nat→Prop)(br bj bd bi N:Nat)(j:Jl)(x:Itk)(off:Nat):Prop where
 jl:JlIn w G F bj bd j
 it:ItkAt w R bi N x
 blk:w.heap[br]?=some (rpObj bj bi off)
 nr: ¬(G br∨F br∨R br)
 rj: ∀b,R b→ ¬(G b∨F b)
 ml: ¬R 1
theorem RpAt.keep{w w':World}{G F R:Nat→Prop}{br bj bd bi N:Nat}{j:Jl}{x:Itk}{off:Nat}(h:RpAt w G F R br bj bd bi N j x off)(hsz:w.heap.size≤w'.heap.size)(hk: ∀b,G b∨F b∨R b∨b=br→w'.heap[b]?=w.heap[b]?):RpAt w' G F R br bj bd bi N j x off:=⟨h.jl.keep hsz fun b hb=>hk b (hb.elim .inl fun h=>.inr (.inl h)),h.it.keep hsz fun b hb=>hk b (.inr (.inr (.inl hb))),(hk br (.inr (.inr (.inr rfl)))).trans h.blk,h.nr,h.rj,h.ml⟩
theorem RpAt.blt{w:World}{G F R:Nat→Prop}{br bj bd bi N:Nat}{j:Jl}{x:Itk}{off:Nat}(h:RpAt w G F R br bj bd bi N j x off):br<w.heap.size:=(Array.getElem?_eq_some_iff.1 h.blk).1
theorem RpAt.rlt{w:World}{G F R:Nat→Prop}{br bj bd bi N:Nat}{j:Jl}{x:Itk}{off:Nat}(h:RpAt w G F R br bj bd bi N j x off): ∀b,R b→b<w.heap.size:=by obtain⟨A,_,_,_,_,_,h6⟩:=h.it;exact h6
theorem RpAt.up{w w':World}{G F R:Nat→Prop}{br bj bd bi N:Nat}{j:Jl}{x:Itk}{off:Nat}(h:RpAt w G F R br bj bd bi N j x off)(hb:RowKit.Below w.heap.size w w'):RpAt w' G F R br bj bd bi N j x off:=h.keep hb.size fun b hh=>hb.block b (by
 rcases hh with h1|h1|h1|h1;·exact h.jl.lt b (.inl h1)
 ·exact h.jl.lt b (.inr h1)
 ·exact h.rlt b h1
 ·rw[h1];exact h.blt)
theorem RpAt.cells{w:World}{G F R:Nat→Prop}{br bj bd bi N:Nat}{j:Jl}{x:Itk}{off:Nat}(h:RpAt w G F R br bj bd bi N j x off):w.cell? ⟨br,0,none⟩=some (.pointer (some ⟨bj,0,none⟩))∧w.cell? ⟨br,1,none⟩=some (.pointer (some ⟨bi,0,none⟩))∧w.cell? ⟨br,2,none⟩=some (.int .i64 off):=by have key: ∀o,w.cell? ⟨br,o,none⟩=_:=fun o=>cell_of_row w br o _ _ (0,0) h.blk;exact⟨(key 0).trans rfl,(key 1).trans rfl,(key 2).trans rfl⟩
theorem RpAt.read{w w':World}{G F R R':Nat→Prop}{br bj bd bi N M:Nat}{j:Jl}{x y:Itk}{off o2:Nat}(h:RpAt w G F R br bj bd bi N j x off)(hi:ItkAt w' R' bi M y)(hk:Keep R w w')(hR: ∀b,R' b→R b∨w.heap.size≤b)(hmx:MaxAt w):RpAt (w'.setCell ⟨br,2,none⟩ (.int .i64 o2)) G F R' br bj bd bi M j y o2∧Keep (fun b=>R b∨b=br) w (w'.setCell ⟨br,2,none⟩ (.int .i64 o2)):=by
 have hrb: ¬R br:=fun hh=>h.nr (.inr (.inr hh));have hblk:w'.heap[br]?=some (rpObj bj bi off):=(hk.block br h.blt hrb).trans h.blk;have hs:=hk.size;have hss:(w'.setCell ⟨br,2,none⟩ (.int .i64 o2)).heap.size=w'.heap.size:=by simp[World.setCell]
 have hset: ∀b,b≠br→(w'.setCell ⟨br,2,none⟩ (.int .i64 o2)).heap[b]?=w'.heap[b]?:=fun b hb=>Below.heap_setCell _ _ _ _ hb;refine⟨⟨h.jl.keep (by omega) fun b hb=>?_,hi.keep (by omega) fun b hb=>hset b fun e=>?_,?_,fun hh=>?_,fun b hb hg=>?_,fun hh=>?_⟩,(hk.mono fun b _ hb=>.inl hb).setCell (fun _=>.inr rfl) _⟩;·rw[hset b (fun e=>h.nr (by rw[e]at hb;exact hb.elim .inl fun h=>.inr (.inl h)))];exact hk.block b (h.jl.lt b hb) (fun hr=>h.rj b hr hb)
 ·rw[e]at hb;rcases hR br hb with h1|h1;·exact hrb h1
  ·have:=h.blt;omega
 ·rw[heap_set_row hblk];rfl
 ·rcases hh with h1|h1|h1;·exact h.nr (.inl h1)
  ·exact h.nr (.inr (.inl h1))
  ·rcases hR br h1 with h2|h2;·exact hrb h2
   ·have:=h.blt;omega
 ·rcases hR b hb with h1|h1;·exact h.rj b h1 hg
  ·have:=h.jl.lt b hg;omega
 ·rcases hR _ hh with h1|h1;·exact h.ml h1
  ·have:=hmx.lt;omega
def RpPullPost(w:World)(G F R:Nat→Prop)(br bj bd bi N:Nat)(j:Jl)(x:Itk)(off m:Nat)(ds:List Ev)(e:Ending)(w':World):Prop:=e=.returned (.int .i64 m)∧ ∃R',RpAt w' G F R' br bj bd bi (N+2*m) j (admAll x ((ds.drop off).take m)) (off+m)∧Keep (fun b=>R b∨b=br) w w'∧ ∀b,R' b→R b∨w.heap.size≤b
theorem rppull_any(w:World)(G F R:Nat→Prop)(br bj bd bi N:Nat)(j:Jl)(x:Itk)(off:Nat)(h:RpAt w G F R br bj bd bi N j x off)(ds:List Ev)(hes:j.es=ds.map some)(n:Int)(m:Nat)(hm:m=(min (max n 0) ((ds.length:Int)-off)).toNat)(hoff:off≤ds.length)(hlen:ds.length≤60)(hN:N+200<100000)(hmx:MaxAt w):Calls Tryz.prog 10 #[.pointer (some ⟨br,0,none⟩),.int .i64 n] w (RpPullPost w G F R br bj bd bi N j x off m ds):=by
 have HH:=qH h;have HMX:=qH hmx;have HES:=qH hes;have HW:=qH (show IntKind.i64.wrap ((ds.length:Int)-off)=(ds.length:Int)-off from IntWalk.i64_in _ (by omega));have HM:=qH (show min (max n 0) ((ds.length:Int)-off)=(m:Int)from by omega);have hmo:off+m≤ds.length:=by omega
 have HRD:=qH (show∀W,Below w.heap.size w W→Calls Tryz.prog 21 #[.pointer (some ⟨bj,0,none⟩),.int .i64 off,.int .i64 m,.func (.func 22) #[.pointer (some ⟨bi,0,none⟩)] #[]] W (RpReadPost W R bi N x ((ds.drop off).take m))from fun W hW=>rpread_any W G F R bj bd bi N j x (HH.out.up hW).jl ds hes (HH.out.up hW).it off m hmo hlen hN (HMX.out.up hW) HH.out.ml);have HEL:=qH (show((ds.drop off).take m).length=m from by rw[List.length_take,List.length_drop];omega);obtain⟨c0,c1,c2⟩:=h.cells;have HLE:=qH (show j.es.length=ds.length from by rw[hes,List.length_map]);have HLN:=qH (show Calls Tryz.prog 19 #[.pointer (some ⟨bj,0,none⟩)] (w.drewN 1) fun e w'=>e=.returned (.int .i64 j.es.length)∧w'=w.drewN 1 from(jllen_any (w.drewN 1) G F bj bd j (HH.out.jl.up (below_drewN (Below.refl _ _) 1))).mono fun e w' he=>⟨he.1,he.2.symm⟩);rw[HLE.out]at HLN;clear h hmx hes hm;go_enter Tryz.func10,Tryz.ntmps10;go_wp2;go_still_tail 13,(by kernel_rfl);still_call HLN.out;repeat still_step
 refine wpStill_nil ?_;change wpList _ _ _ _ _ (w.drewN 1);rw[HW.out,HM.out];have HH1:=qH (HH.out.up (below_drewN (Below.refl _ _) 1));have HB1:=qH (show Below w.heap.size w (w.drewN 1)from below_drewN (Below.refl _ _) 1);clear c0 c1 c2 HLN;generalize w.drewN 1=w1 at*;obtain⟨c0,c1,c2⟩:=HH1.out.cells;generalize(ds.length:Int)-off=z0 at*;generalize IntKind.i64.wrap z0=z1 at*;go_wp2;go_still_tail 14,(by kernel_rfl);repeat still_step
 change wpList _ _ _ _ _ (w1.drewN 1);have HH2:=qH (HH1.out.up (below_drewN (Below.refl _ _) 1));have HB2:=qH (show Below w.heap.size w (w1.drewN 1)from below_drewN HB1.out 1);clear c0 c1 c2 HH1 HB1;generalize w1.drewN 1=w2 at*;go_wp2_with fail;refine(HRD.out w2 HB2.out).mono ?_;rintro r w3⟨rfl,R3,hI3,hk3,hR3⟩;rw[HEL.out]at hI3;obtain⟨hr3,hk4⟩:=HH2.out.read (o2:=off+m) hI3 hk3 hR3 (HMX.out.up HB2.out);have hs2:=HB2.out.size;have HP:=qH (show RpPullPost w G F R br bj bd bi N j x off m ds (.returned (.int .i64 m)) (w3.setCell ⟨br,2,none⟩ (.int .i64 ((off+m:Nat):Int)))from⟨rfl,R3,hr3,(Keep.of_below HB2.out).trans hk4 (fun _ _ h=>h),fun b hb=>(hR3 b hb).imp id fun h=>by omega⟩);have hb3:w3.heap[br]?=some (rpObj bj bi off):=(hk3.block br HH2.out.blt (fun h=>HH2.out.nr (.inr (.inr h)))).trans HH2.out.blk;have c2:w3.cell? ⟨br,2,none⟩=some (.int .i64 off):=(cell_of_row w3 br 2 _ _ (0,0) hb3).trans rfl;have f2:=frozen_of_row w3 br 2 _ _ hb3;have HW2:=qH (show IntKind.i64.wrap ((off:Int)+(m:Int))=((off+m:Nat):Int)from by rw[IntWalk.i64_in _ (by omega)];omega);clear hI3 hk3 hR3 hr3 hk4 hb3;go_wp2;go_ret;exact HP.out
def RpNewPost(w:World)(G F:Nat→Prop)(bj bd:Nat)(j:Jl)(x:Itk)(e:Ending)(w':World):Prop:= ∃br bi R,e=.returned (.pointer (some ⟨br,0,none⟩))∧RpAt w' G F R br bj bd bi 0 j x 0∧Below w.heap.size w w'∧(∀b,R b→w.heap.size≤b)∧w.heap.size≤br
theorem rpnew_any(w:World)(G F:Nat→Prop)(bj bd:Nat)(j:Jl)(hj:JlIn w G F bj bd j)(slack idle:Int)(hmx:MaxAt w):Calls Tryz.prog 9 #[.pointer (some ⟨bj,0,none⟩),.int .i64 slack,.int .i64 idle] w (RpNewPost w G F bj bd j (Itk.new slack idle)):=by
 have HJ:=qH hj;have hml:=hmx.lt;clear hj hmx;go_enter Tryz.func9,Tryz.ntmps9;go_wp2_with fail;refine(itknew_any w slack idle).mono ?_;rintro r w1⟨bi,R,rfl,hI,hb1,hR⟩;have HI:=qH hI;have HR:=qH hR;have hs1:=hb1.size;have hbq:Below w1.heap.size w1 (w1.alloc (rpObj bj bi 0)):=(Below.refl _ _).alloc (Nat.le_refl _) _;have hjl:=HJ.out.lt;have hRl: ∀b,R b→b<w1.heap.size:=by obtain⟨A,_,_,_,_,_,h6⟩:=hI;exact h6
 have HP:=qH (show RpNewPost w G F bj bd j (Itk.new slack idle) (.returned (.pointer (some ⟨w1.heap.size,0,none⟩))) (w1.alloc (rpObj bj bi 0))from⟨w1.heap.size,bi,R,rfl,⟨(HJ.out.up hb1).up hbq,hI.up hbq,heap_alloc_new w1 _,fun h=>by
  rcases h with h|h|h;·have:=hjl _ (.inl h);omega
  ·have:=hjl _ (.inr h);omega
  ·have:=hRl _ h;omega,fun b hb hg=>by have:=hjl b hg;have:=hR b hb;omega,fun h=>by have:=hR _ h;omega⟩,hb1.trans (hbq.mono hs1),hR,hs1⟩);clear hI hR hb1 hbq hjl hRl;go_wp2;go_ret;exact HP.out
theorem rpoff_any(w:World)(G F R:Nat→Prop)(br bj bd bi N:Nat)(j:Jl)(x:Itk)(off:Nat)(h:RpAt w G F R br bj bd bi N j x off):Calls Tryz.prog 15 #[.pointer (some ⟨br,0,none⟩)] w fun e w'=>e=.returned (.int .i64 off)∧w=w':=by obtain⟨_,_,c2⟩:=h.cells;clear h;go_enter Tryz.func15,Tryz.ntmps15;go_wp2;go_ret;exact⟨rfl,rfl⟩
theorem mayB_smallT{e:Ev}(h:mayB e=true):e.small:=by have:=mayB_fit h;exact⟨by have:=this.src;omega,by have:=this.per;omega,by have:=this.item;omega,by have:=this.text;omega⟩
def LoggedPost(w:World)(G:Nat→Prop)(bd:Nat)(ds:List Ev)(e:Ending)(w':World):Prop:= ∃(bj:Nat)(G' F':Nat→Prop)(j:Jl),e=.returned (.pointer (some ⟨bj,0,none⟩))∧JlIn w' G' F' bj bd j∧(∀b,G' b→G b∨w.heap.size≤b)∧(∀b,F' b→w.heap.size≤b)∧Keep G w w'∧j.es=ds.map some
theorem logged_any(w:World)(G:Nat→Prop)(bd:Nat)(hd:DkIn w G bd Dk.new)(A:Option Addr)(n c:Nat)(ds:List Ev)(h:Evs w w.heap.size A n c ds)(hA: ∀b off,A=some ⟨b,off,none⟩→ ¬G b)(hn:n≤60)(hal:ds.all mayB=true)(hmx:MaxAt w)(hml: ¬G 1):Calls Tryz.prog 6 #[.pointer (some ⟨bd,0,none⟩),.slice A n c] w (LoggedPost w G bd ds):=by
 have HH:=qH h;have HMX:=qH hmx;have hmm:=hmx.lt;have HL:=qH h.len;have HAL:=qH hal;have HML:=qH hml;have HAG:=qH hA;have HSM:=qH (show∀e∈ds,e.small from fun e he=>mayB_smallT (List.all_eq_true.1 hal e he));clear h hmx hal hml hA;go_enter Tryz.func6,Tryz.ntmps6;go_wp2_with fail;refine(jlopen0_any w G bd Dk.new hd rfl rfl [101,118,101,110,116,115] (by decide) 5 (by decide) (by decide)).mono ?_;rintro r w5⟨bj,G5,F5,rfl,hj5,hG5,hF5,hk5⟩;have HJ5:=qH hj5;have HG5:=qH hG5;have HF5:=qH hF5;have HK5:=qH hk5;have hs5:=hk5.size;obtain⟨j0,hj0⟩: ∃j0,j0=Jl.new Dk.new [101,118,101,110,116,115] 5:=⟨_,rfl⟩;rw[←hj0]at HJ5;have hf0:j0.Fine:=by rw[hj0];exact Jl.fine_new [101,118,101,110,116,115] 5 (by decide) (by decide)
 have he0:j0.es=[]:=by rw[hj0];rfl
 have hps:(j0.puts ds).Fine∧j0.putsE ds=0∧(j0.puts ds).es=j0.es++ds.map some∧(j0.puts ds).name=j0.name∧(j0.puts ds).per=j0.per:=Jl.Fine.puts ds hf0 (by rw[he0,HL.out];simp;omega) (fun e he=>(mayB_fit (List.all_eq_true.1 HAL.out e he)).len);have HAP:=qH (show j0.appN ds=0∧j0.appE ds=0∧(j0.app ds).es=ds.map some∧(j0.app ds).Fine from by unfold Jl.app Jl.appN Jl.appE;simp only[hf0.free,ne_eq,not_true_eq_false,if_false,HAL.out,if_true];exact⟨by rw[he0];rfl,hps.2.1,by rw[hps.2.2.1,he0];rfl,hps.1⟩);have HEV:=qH (show Evs w5 w5.heap.size A n c ds from Cel.keepG HH.out HAG.out hk5);have HAPP:=qH (jlapp_any w5 G5 F5 bj bd j0 HJ5.out A n c ds HEV.out (fun b off e h0 hg=>by
  obtain⟨b',off',e',hb',_⟩:=Cel.cell HH.out h0;rw[e']at e;injection e with e;injection e with e;subst e;rcases hg with hg|hg
  ·rcases HG5.out _ hg with h|h;·exact HAG.out _ _ e' h
   ·omega
  ·have:=HF5.out _ hg;omega) HSM.out (by rw[he0,HL.out];simp;omega) (HMX.out.out HK5.out HML.out) ⟨fun hg=>by
  rcases HG5.out _ hg with h|h;·exact HML.out h
  ·omega,fun hg=>by have:=HF5.out _ hg;omega⟩);rw[HAP.out.1,HAP.out.2.1]at HAPP;clear hj5 hG5 hF5 hk5 hj0 hf0 he0 hps;go_wp2_with fail;refine HAPP.out.mono ?_;rintro r w6⟨rfl,G6,F6,hj6,hG6,hF6,hk6⟩;have HR:=qH (show LoggedPost w G bd ds (.returned (.pointer (some ⟨bj,0,none⟩))) w6 from by
  refine⟨bj,G6,F6,_,rfl,hj6,fun b hb=>?_,fun b hb=>?_,HK5.out.trans hk6 (fun b hb hg=>?_),HAP.out.2.2.1⟩
  ·rcases hG6 b hb with h|h
   ·rcases HG5.out b h with h|h;·exact .inl h
    ·exact .inr h
   ·right;omega
  ·rcases hF6 b hb with h|h;·exact HF5.out b h
   ·omega
  ·rcases hg with h|h
   ·rcases HG5.out b h with h|h;·exact h
    ·omega
   ·have:=HF5.out b h;omega);clear hj6 hG6 hF6 hk6 HAPP;go_wp2;go_ret;exact HR.out
theorem sameT_any(w:World)(B B':Nat)(A A':Option Addr)(n c c':Nat)(es:List Ev)(h:Evs w B A n c es)(h':Evs w B' A' n c' es)(hn:n≤100000):Calls Tryz.prog 11 #[.slice A n c,.slice A' n c'] w fun e w'=>e=.returned (.bool true)∧ ∃k,w'=w.drewN k:=by
 have HH:=qH h;clear h;have HH':=qH h';clear h';have hnn:((n:Int)!=(n:Int))=false:=by simp
 go_enter Tryz.func11,Tryz.ntmps11;go_wp2;clear hnn;go_loopw[13](fun i wr=> ∃k q:Nat,i=.int .i64 k∧k≤n∧wr=w.drewN q)(fun i _=>n-(intOf i).toNat);case atStart=>exact⟨0,0,rfl,Nat.zero_le _,rfl⟩
 case round=>
  obtain⟨k,q,rfl,hk,rfl⟩:=hrel;by_cases hkn:k<n
  ·have hkl:k<es.length:=by rw[HH.out.len];exact hkn
   obtain⟨b,off,rfl,hb,hc⟩:=HH.out.ev k hkl;obtain⟨b',off',rfl,hb',hc'⟩:=HH'.out.ev k hkl;obtain⟨e0,e1,e2,e3,e4,e5,e6,e7⟩:=hc;obtain⟨f0,f1,f2,f3,f4,f5,f6,f7⟩:=hc';have t1:(k:Int)<n:=by omega
   generalize es[k]=x at*;go_wp2;go_quiet(fail);go_wp2;go_roundw;case rel=>exact⟨k+1,q+nq,by go_num,by omega,by first|rfl|exact World.drewN_drewN ..⟩
   case measure=>simp[intOf];omega
  ·go_wp2;go_ret;exact⟨rfl,_,rfl⟩
end Go.Proofs.YtajihpcdplpcdaaGreatDoor
