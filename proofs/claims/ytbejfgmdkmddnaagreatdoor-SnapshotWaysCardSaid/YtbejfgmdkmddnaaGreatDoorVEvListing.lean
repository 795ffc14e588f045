/-
  A sieve's round.
-/
import Derived.Shelf.SlGeneric
import Derived.Shelf.SlIter.Nil
import Derived.Ground.GgzProg
import Derived.OwnWalkIn
import Derived.CallsIn
import Derived.Test.YtbejfgmdkmddnaaGreatDoorVHadPlain
import Derived.Test.YtbejfgmdkmddnaaGreatDoorVShelf
import Derived.WalkLawsBesides
import Derived.Lib.Walk
set_option maxRecDepth 100000
set_option maxHeartbeats 16000000
namespace Go.Proofs
open Go.Shelf
def Tryz.wO:Go.Shelf.Ren:=⟨fun|7=>112|10=>171|n=>n,fun|23=>82|26=>9|3=>4|28=>176|0=>0|27=>175|33=>117|4=>4|n=>n,fun|n=>n⟩
theorem Tryz.keys112:Go.Proofs.SlLaysZ.n7 Tryz.prog Tryz.wO:={mixed:=by kernel_rfl,f7:=⟨Tryz.f112.name,by decide,Tryz.func112.trans (congrArg some (by kernel_rfl))⟩,f10:=⟨Tryz.f171.name,by decide,Tryz.func171.trans (congrArg some (by kernel_rfl))⟩,t0:=Tryz.underlying0,a0:=Tryz.isAgg0,z0:=Tryz.sizeOf0,v0:=Tryz.zeroValue0,t4:=Tryz.underlying4,a4:=Tryz.isAgg4,z4:=Tryz.sizeOf4,v4:=Tryz.zeroValue4,t23:=Tryz.underlying82,a23:=Tryz.isAgg82,z23:=Tryz.sizeOf82,v23:=Tryz.zeroValue82,t26:=Tryz.underlying9,a26:=Tryz.isAgg9,z26:=Tryz.sizeOf9,v26:=Tryz.zeroValue9,t27:=Tryz.underlying175,a27:=Tryz.isAgg175,z27:=Tryz.sizeOf175,v27:=Tryz.zeroValue175,t28:=Tryz.underlying176,a28:=Tryz.isAgg176,z28:=Tryz.sizeOf176,v28:=Tryz.zeroValue176,t33:=Tryz.underlying117,a33:=Tryz.isAgg117,z33:=Tryz.sizeOf117,v33:=Tryz.zeroValue117}
def Tryz.qP:Go.Shelf.Ren:=⟨fun|6=>111|8=>169|9=>170|11=>203|13=>205|12=>204|23=>238|24=>239|14=>229|15=>230|16=>231|17=>232|18=>233|19=>234|20=>235|21=>236|22=>237|25=>257|26=>258|27=>259|28=>260|29=>261|30=>262|31=>277|n=>n,fun|26=>9|28=>176|24=>40|0=>0|3=>3|37=>152|48=>153|50=>236|4=>4|40=>266|39=>265|45=>184|5=>5|9=>9|51=>288|55=>292|57=>302|58=>106|33=>117|n=>n,fun|n=>n⟩
theorem Tryz.sorted111:Go.Proofs.SlLaysZ.n6 Tryz.prog Tryz.qP:={mixed:=by kernel_rfl,f6:=⟨Tryz.f111.name,by decide,Tryz.func111.trans (congrArg some (by kernel_rfl))⟩,f8:=⟨Tryz.f169.name,by decide,Tryz.func169.trans (congrArg some (by kernel_rfl))⟩,f11:=⟨Tryz.f203.name,by decide,Tryz.func203.trans (congrArg some (by kernel_rfl))⟩,t0:=Tryz.underlying0,a0:=Tryz.isAgg0,z0:=Tryz.sizeOf0,v0:=Tryz.zeroValue0,t24:=Tryz.underlying40,a24:=Tryz.isAgg40,z24:=Tryz.sizeOf40,v24:=Tryz.zeroValue40,t26:=Tryz.underlying9,a26:=Tryz.isAgg9,z26:=Tryz.sizeOf9,v26:=Tryz.zeroValue9,t28:=Tryz.underlying176,a28:=Tryz.isAgg176,z28:=Tryz.sizeOf176,v28:=Tryz.zeroValue176,i26:=by kernel_rfl}
def Tryz.Ec:Go.Shelf.Ren:=⟨fun|6=>170|8=>205|9=>204|19=>238|20=>239|21=>229|22=>230|23=>231|24=>232|25=>233|26=>234|27=>235|28=>236|29=>237|36=>257|31=>258|32=>259|37=>260|38=>261|39=>262|41=>277|n=>n,fun|27=>40|29=>9|3=>3|32=>152|26=>40|0=>0|44=>153|46=>236|4=>4|36=>266|35=>265|41=>184|5=>5|9=>9|53=>288|57=>292|63=>302|64=>106|n=>n,fun|n=>n⟩
theorem Tryz.sort170:Go.Proofs.SlLaysM.n6 Tryz.prog Tryz.Ec:={mixed:=by kernel_rfl,f6:=⟨Tryz.f170.name,by decide,Tryz.func170.trans (congrArg some (by kernel_rfl))⟩,f8:=Tryz.func205.trans (congrArg some (by kernel_rfl)),f9:=⟨Tryz.f204.name,by decide,Tryz.func204.trans (congrArg some (by kernel_rfl))⟩,f19:=Tryz.func238.trans (congrArg some (by kernel_rfl)),f20:=Tryz.func239.trans (congrArg some (by kernel_rfl)),f21:=⟨Tryz.f229.name,by decide,Tryz.func229.trans (congrArg some (by kernel_rfl))⟩,f22:=⟨Tryz.f230.name,by decide,Tryz.func230.trans (congrArg some (by kernel_rfl))⟩,f23:=⟨Tryz.f231.name,by decide,Tryz.func231.trans (congrArg some (by kernel_rfl))⟩,f24:=⟨Tryz.f232.name,by decide,Tryz.func232.trans (congrArg some (by kernel_rfl))⟩,f25:=⟨Tryz.f233.name,by decide,Tryz.func233.trans (congrArg some (by kernel_rfl))⟩,f26:=⟨Tryz.f234.name,by decide,Tryz.func234.trans (congrArg some (by kernel_rfl))⟩,f27:=⟨Tryz.f235.name,by decide,Tryz.func235.trans (congrArg some (by kernel_rfl))⟩,f28:=⟨Tryz.f236.name,by decide,Tryz.func236.trans (congrArg some (by kernel_rfl))⟩,f29:=⟨Tryz.f237.name,by decide,Tryz.func237.trans (congrArg some (by kernel_rfl))⟩,f31:=Tryz.func258.trans (congrArg some (by kernel_rfl)),f32:=Tryz.func259.trans (congrArg some (by kernel_rfl)),f36:=⟨Tryz.f257.name,by decide,Tryz.func257.trans (congrArg some (by kernel_rfl))⟩,f37:=⟨Tryz.f260.name,by decide,Tryz.func260.trans (congrArg some (by kernel_rfl))⟩,f38:=⟨Tryz.f261.name,by decide,Tryz.func261.trans (congrArg some (by kernel_rfl))⟩,f39:=⟨Tryz.f262.name,by decide,Tryz.func262.trans (congrArg some (by kernel_rfl))⟩,f41:=⟨Tryz.f277.name,by decide,Tryz.func277.trans (congrArg some (by kernel_rfl))⟩,t0:=Tryz.underlying0,a0:=Tryz.isAgg0,z0:=Tryz.sizeOf0,v0:=Tryz.zeroValue0,t3:=Tryz.underlying3,a3:=Tryz.isAgg3,z3:=Tryz.sizeOf3,v3:=Tryz.zeroValue3,t4:=Tryz.underlying4,a4:=Tryz.isAgg4,z4:=Tryz.sizeOf4,v4:=Tryz.zeroValue4,t5:=Tryz.underlying5,a5:=Tryz.isAgg5,z5:=Tryz.sizeOf5,v5:=Tryz.zeroValue5,t9:=Tryz.underlying9,a9:=Tryz.isAgg9,z9:=Tryz.sizeOf9,v9:=Tryz.zeroValue9,t26:=Tryz.underlying40,a26:=Tryz.isAgg40,z26:=Tryz.sizeOf40,v26:=Tryz.zeroValue40,t27:=Tryz.underlying40,a27:=Tryz.isAgg40,z27:=Tryz.sizeOf40,v27:=Tryz.zeroValue40,t29:=Tryz.underlying9,a29:=Tryz.isAgg9,z29:=Tryz.sizeOf9,v29:=Tryz.zeroValue9,t32:=Tryz.underlying152,a32:=Tryz.isAgg152,z32:=Tryz.sizeOf152,v32:=Tryz.zeroValue152,t35:=Tryz.underlying265,a35:=Tryz.isAgg265,z35:=Tryz.sizeOf265,v35:=Tryz.zeroValue265,t36:=Tryz.underlying266,a36:=Tryz.isAgg266,z36:=Tryz.sizeOf266,v36:=Tryz.zeroValue266,t41:=Tryz.underlying184,a41:=Tryz.isAgg184,z41:=Tryz.sizeOf184,v41:=Tryz.zeroValue184,t44:=Tryz.underlying153,a44:=Tryz.isAgg153,z44:=Tryz.sizeOf153,v44:=Tryz.zeroValue153,t46:=Tryz.underlying236,a46:=Tryz.isAgg236,z46:=Tryz.sizeOf236,v46:=Tryz.zeroValue236,t53:=Tryz.underlying288,a53:=Tryz.isAgg288,z53:=Tryz.sizeOf288,v53:=Tryz.zeroValue288,t57:=Tryz.underlying292,a57:=Tryz.isAgg292,z57:=Tryz.sizeOf292,v57:=Tryz.zeroValue292,t63:=Tryz.underlying302,a63:=Tryz.isAgg302,z63:=Tryz.sizeOf302,v63:=Tryz.zeroValue302,t64:=Tryz.underlying106,a64:=Tryz.isAgg106,z64:=Tryz.sizeOf106,v64:=Tryz.zeroValue106}
def Tryz.wN:Go.Shelf.Ren:=⟨fun|7=>167|10=>201|n=>n,fun|23=>134|26=>9|3=>142|28=>176|0=>0|27=>175|33=>117|4=>4|n=>n,fun|n=>n⟩
theorem Tryz.keys167:Go.Proofs.SlLaysZ.n7 Tryz.prog Tryz.wN:={mixed:=by kernel_rfl,f7:=⟨Tryz.f167.name,by decide,Tryz.func167.trans (congrArg some (by kernel_rfl))⟩,f10:=⟨Tryz.f201.name,by decide,Tryz.func201.trans (congrArg some (by kernel_rfl))⟩,t0:=Tryz.underlying0,a0:=Tryz.isAgg0,z0:=Tryz.sizeOf0,v0:=Tryz.zeroValue0,t4:=Tryz.underlying4,a4:=Tryz.isAgg4,z4:=Tryz.sizeOf4,v4:=Tryz.zeroValue4,t23:=Tryz.underlying134,a23:=Tryz.isAgg134,z23:=Tryz.sizeOf134,v23:=Tryz.zeroValue134,t26:=Tryz.underlying9,a26:=Tryz.isAgg9,z26:=Tryz.sizeOf9,v26:=Tryz.zeroValue9,t27:=Tryz.underlying175,a27:=Tryz.isAgg175,z27:=Tryz.sizeOf175,v27:=Tryz.zeroValue175,t28:=Tryz.underlying176,a28:=Tryz.isAgg176,z28:=Tryz.sizeOf176,v28:=Tryz.zeroValue176,t33:=Tryz.underlying117,a33:=Tryz.isAgg117,z33:=Tryz.sizeOf117,v33:=Tryz.zeroValue117}
def Tryz.wM:Go.Shelf.Ren:=⟨fun|7=>168|10=>202|n=>n,fun|23=>137|26=>9|3=>171|28=>176|0=>0|27=>175|33=>117|4=>4|n=>n,fun|n=>n⟩
theorem Tryz.keys168:Go.Proofs.SlLaysZ.n7 Tryz.prog Tryz.wM:={mixed:=by kernel_rfl,f7:=⟨Tryz.f168.name,by decide,Tryz.func168.trans (congrArg some (by kernel_rfl))⟩,f10:=⟨Tryz.f202.name,by decide,Tryz.func202.trans (congrArg some (by kernel_rfl))⟩,t0:=Tryz.underlying0,a0:=Tryz.isAgg0,z0:=Tryz.sizeOf0,v0:=Tryz.zeroValue0,t4:=Tryz.underlying4,a4:=Tryz.isAgg4,z4:=Tryz.sizeOf4,v4:=Tryz.zeroValue4,t23:=Tryz.underlying137,a23:=Tryz.isAgg137,z23:=Tryz.sizeOf137,v23:=Tryz.zeroValue137,t26:=Tryz.underlying9,a26:=Tryz.isAgg9,z26:=Tryz.sizeOf9,v26:=Tryz.zeroValue9,t27:=Tryz.underlying175,a27:=Tryz.isAgg175,z27:=Tryz.sizeOf175,v27:=Tryz.zeroValue175,t28:=Tryz.underlying176,a28:=Tryz.isAgg176,z28:=Tryz.sizeOf176,v28:=Tryz.zeroValue176,t33:=Tryz.underlying117,a33:=Tryz.isAgg117,z33:=Tryz.sizeOf117,v33:=Tryz.zeroValue117}
open Go.RowKit Go.Maps Go.Sort Go.Shelf
theorem Tryz.sorts111(m:Nat):AnyZ.SortsIn Tryz.prog Tryz.qP Fence.wide m:=⟨fun blk off cap ss W hH hblk hsz=>callsIn_wide.2 (AnyM.slices_Sort_string Tryz.sort170 blk off cap ss W hH hblk hsz),fun p cap W=>callsIn_wide.2 (AnyM.slices_Sort_string_none Tryz.sort170 p cap W)⟩
theorem Tryz.zS(mb:Option Nat)(W:World):CallsIn Fence.wide 5 Tryz.prog 112 #[.map mb] W fun e w'=>e=.returned (.func (.func 171) #[] #[.pointer (some ⟨W.heap.size,0,none⟩)])∧w'=W.alloc (.cells #[.map mb] 82):=AnyZ.keys_in Tryz.keys112 Fence.wide 5 trivial rfl mb W
theorem Tryz.kN{H:Type}(b nn:Nat)(D0:DataW H)(R:Value→Option (DataW H×List MemPlace))(w:World)(hown:w.ownsMap Tryz.prog 9 R b nn D0)(hmax:Maps.size D0≤maxLen)(hbytes:Maps.size D0*16≤140737488355328):CallsIn Fence.wide 5 Tryz.prog 111 #[.func (.func 171) #[] #[.pointer (some ⟨w.heap.size,0,none⟩)]] (w.alloc (.cells #[.map (some b)] 82)) fun e w'=> ∃(v:Value)(ss:List (List UInt8)),e=.returned v∧ss.Perm (strKeys D0)∧w'.ownsRow (w.alloc (.cells #[.map (some b)] 82)).heap.size 9 1 v ss.length ((ss.mergeSort (fun x y=>decide (x≤y))).map encStr)∧(v=.slice none 0 0↔ss=[])∧Below (w.alloc (.cells #[.map (some b)] 82)).heap.size (w.alloc (.cells #[.map (some b)] 82)) w':=by have hbl:=hown.lt;have hseq:SeqGives Fence.wide 2 Tryz.prog 171 #[.pointer (some ⟨w.heap.size,0,none⟩)] encStr (fun ss=>ss.Perm (strKeys D0)) (Maps.size D0) (w.alloc (.cells #[.map (some b)] 82)):=AnyZ.keys_gives (ρ:=Tryz.wO) {Tryz.keys112 with} Fence.wide _ trivial rfl (by omega) w.heap.size b nn D0 _ (by simp) (by simp) (by obtain⟨es,clock,hb,Ft,hs,hD⟩:=hown;exact⟨es,clock,(Below.heap_alloc _ _ b hbl).trans hb,Ft,hs,hD⟩);exact AnyZ.sorted_in Tryz.sorted111 Fence.wide 5 trivial trivial trivial trivial rfl (by omega) (Tryz.sorts111 _) (enters_of Tryz.func170 (by kernel_rfl) rfl) 171 #[.pointer (some ⟨w.heap.size,0,none⟩)] trivial (enters_of Tryz.func171 (by kernel_rfl) rfl) _ _ hmax hbytes _ hseq
theorem Tryz.zR(mb:Option Nat)(W:World):CallsIn Fence.wide 5 Tryz.prog 167 #[.map mb] W fun e w'=>e=.returned (.func (.func 201) #[] #[.pointer (some ⟨W.heap.size,0,none⟩)])∧w'=W.alloc (.cells #[.map mb] 134):=AnyZ.keys_in Tryz.keys167 Fence.wide 5 trivial rfl mb W
theorem Tryz.kM{H:Type}(b nn:Nat)(D0:DataW H)(R:Value→Option (DataW H×List MemPlace))(w:World)(hown:w.ownsMap Tryz.prog 9 R b nn D0)(hmax:Maps.size D0≤maxLen)(hbytes:Maps.size D0*16≤140737488355328):CallsIn Fence.wide 5 Tryz.prog 111 #[.func (.func 201) #[] #[.pointer (some ⟨w.heap.size,0,none⟩)]] (w.alloc (.cells #[.map (some b)] 134)) fun e w'=> ∃(v:Value)(ss:List (List UInt8)),e=.returned v∧ss.Perm (strKeys D0)∧w'.ownsRow (w.alloc (.cells #[.map (some b)] 134)).heap.size 9 1 v ss.length ((ss.mergeSort (fun x y=>decide (x≤y))).map encStr)∧(v=.slice none 0 0↔ss=[])∧Below (w.alloc (.cells #[.map (some b)] 134)).heap.size (w.alloc (.cells #[.map (some b)] 134)) w':=by have hbl:=hown.lt;have hseq:SeqGives Fence.wide 2 Tryz.prog 201 #[.pointer (some ⟨w.heap.size,0,none⟩)] encStr (fun ss=>ss.Perm (strKeys D0)) (Maps.size D0) (w.alloc (.cells #[.map (some b)] 134)):=AnyZ.keys_gives (ρ:=Tryz.wN) {Tryz.keys167 with} Fence.wide _ trivial rfl (by omega) w.heap.size b nn D0 _ (by simp) (by simp) (by obtain⟨es,clock,hb,Ft,hs,hD⟩:=hown;exact⟨es,clock,(Below.heap_alloc _ _ b hbl).trans hb,Ft,hs,hD⟩);exact AnyZ.sorted_in Tryz.sorted111 Fence.wide 5 trivial trivial trivial trivial rfl (by omega) (Tryz.sorts111 _) (enters_of Tryz.func170 (by kernel_rfl) rfl) 201 #[.pointer (some ⟨w.heap.size,0,none⟩)] trivial (enters_of Tryz.func201 (by kernel_rfl) rfl) _ _ hmax hbytes _ hseq
theorem Tryz.zQ(mb:Option Nat)(W:World):CallsIn Fence.wide 5 Tryz.prog 168 #[.map mb] W fun e w'=>e=.returned (.func (.func 202) #[] #[.pointer (some ⟨W.heap.size,0,none⟩)])∧w'=W.alloc (.cells #[.map mb] 137):=AnyZ.keys_in Tryz.keys168 Fence.wide 5 trivial rfl mb W
theorem Tryz.kL{H:Type}(b nn:Nat)(D0:DataW H)(R:Value→Option (DataW H×List MemPlace))(w:World)(hown:w.ownsMap Tryz.prog 9 R b nn D0)(hmax:Maps.size D0≤maxLen)(hbytes:Maps.size D0*16≤140737488355328):CallsIn Fence.wide 5 Tryz.prog 111 #[.func (.func 202) #[] #[.pointer (some ⟨w.heap.size,0,none⟩)]] (w.alloc (.cells #[.map (some b)] 137)) fun e w'=> ∃(v:Value)(ss:List (List UInt8)),e=.returned v∧ss.Perm (strKeys D0)∧w'.ownsRow (w.alloc (.cells #[.map (some b)] 137)).heap.size 9 1 v ss.length ((ss.mergeSort (fun x y=>decide (x≤y))).map encStr)∧(v=.slice none 0 0↔ss=[])∧Below (w.alloc (.cells #[.map (some b)] 137)).heap.size (w.alloc (.cells #[.map (some b)] 137)) w':=by have hbl:=hown.lt;have hseq:SeqGives Fence.wide 2 Tryz.prog 202 #[.pointer (some ⟨w.heap.size,0,none⟩)] encStr (fun ss=>ss.Perm (strKeys D0)) (Maps.size D0) (w.alloc (.cells #[.map (some b)] 137)):=AnyZ.keys_gives (ρ:=Tryz.wM) {Tryz.keys168 with} Fence.wide _ trivial rfl (by omega) w.heap.size b nn D0 _ (by simp) (by simp) (by obtain⟨es,clock,hb,Ft,hs,hD⟩:=hown;exact⟨es,clock,(Below.heap_alloc _ _ b hbl).trans hb,Ft,hs,hD⟩);exact AnyZ.sorted_in Tryz.sorted111 Fence.wide 5 trivial trivial trivial trivial rfl (by omega) (Tryz.sorts111 _) (enters_of Tryz.func170 (by kernel_rfl) rfl) 202 #[.pointer (some ⟨w.heap.size,0,none⟩)] trivial (enters_of Tryz.func202 (by kernel_rfl) rfl) _ _ hmax hbytes _ hseq
end Go.Proofs
namespace Go.Proofs.YtbejfgmdkmddnaaGreatDoor
open Go.RowKit Go.Maps Go.Sort Go.Shelf
def fI(r ks:List (List UInt8)):Prop:=r.Pairwise (·< ·)∧ ∀x,x∈r↔x∈ks
theorem yG(x:List UInt8): ¬x<x:=List.lt_irrefl x
theorem OI{x y:List UInt8}(h:x<y)(h':y<x):False:=yG x (List.lt_trans h h')
theorem iI{r r' ks:List (List UInt8)}(h:fI r ks)(h':fI r' ks):r=r':=by
 have key: ∀(r r':List (List UInt8)),r.Pairwise (·< ·)→r'.Pairwise (·< ·)→(∀x,x∈r↔x∈r')→r=r':=by
  intro r;induction r with
   |nil=>intro r' _ _ hm;cases r' with|nil=>rfl|cons a l=>exact absurd ((hm a).2 List.mem_cons_self) (by simp)
   |cons a l ih=>
    intro r' h1 h2 hm;cases r' with
     |nil=>exact absurd ((hm a).1 List.mem_cons_self) (by simp)
     |cons b l'=>
      have h1':=List.pairwise_cons.1 h1;have h2':=List.pairwise_cons.1 h2;have hab:a=b:=by
       rcases List.mem_cons.1 ((hm a).1 List.mem_cons_self)with e|e;·exact e
       ·rcases List.mem_cons.1 ((hm b).2 List.mem_cons_self)with e'|e';·exact e'.symm
        ·exact(OI (h1'.1 b e') (h2'.1 a e)).elim
      subst hab;congr 1;refine ih l' h1'.2 h2'.2 fun x=>⟨fun hx=>?_,fun hx=>?_⟩
      ·rcases List.mem_cons.1 ((hm x).1 (List.mem_cons_of_mem _ hx))with e|e;·subst e;exact(yG x (h1'.1 x hx)).elim
       ·exact e
      ·rcases List.mem_cons.1 ((hm x).2 (List.mem_cons_of_mem _ hx))with e|e;·subst e;exact(yG x (h2'.1 x hx)).elim
       ·exact e
 exact key r r' h.1 h'.1 fun x=>(h.2 x).trans (h'.2 x).symm
theorem o7{ss ks:List (List UInt8)}(hnd:ss.Nodup)(hm: ∀x,x∈ss↔x∈ks):fI (ss.mergeSort (fun x y=>decide (x≤y))) ks:=by
 have hp:=List.mergeSort_perm ss (fun x y=>decide (x≤y));have hs:=List.pairwise_mergeSort (le:=fun x y:List UInt8=>decide (x≤y)) (fun a b c h1 h2=>by simp at*;exact List.le_trans h1 h2) (fun a b=>by simp;exact List.le_total a b) ss;have hn:(ss.mergeSort (fun x y=>decide (x≤y))).Nodup:=hp.nodup_iff.2 hnd;refine⟨?_,fun x=>hp.mem_iff.trans (hm x)⟩;refine List.pairwise_iff_getElem.2 fun i j hi hj hij=>?_;have h1:=List.pairwise_iff_getElem.1 hs i j hi hj hij;have h2:=List.pairwise_iff_getElem.1 hn i j hi hj hij;generalize(ss.mergeSort (fun x y=>decide (x≤y)))[i]=a at*;generalize(ss.mergeSort (fun x y=>decide (x≤y)))[j]=b at*;have h1':a≤b:=by simpa using h1
 rcases Decidable.em (a<b)with h|h;·exact h
 ·exact absurd (List.le_antisymm h1' (by exact List.not_lt.1 h)) h2
theorem sP(r:Row Value):strKeys (mapD r)=r.map (·.1):=by unfold mapD strKeys;simp[Function.comp_def];intro a b _;rfl
theorem Uv{a b:List UInt8}(h:bytesBefore a b=true):a<b:=by
 have key: ∀a b:List UInt8,Op.bytesLess a b=bytesBefore a b:=fun a=>by induction a with|nil=>intro b;cases b<;>simp[Op.bytesLess,bytesBefore]|cons x a ih=>intro b;cases b with|nil=>simp[Op.bytesLess,bytesBefore]|cons y b=>simp only[Op.bytesLess,bytesBefore,ih b]
 rw[←key,bytesLess_eq]at h;exact of_decide_eq_true h
theorem wL{α:Type}{m:Row α}(h:fT m):fI (m.map (·.1)) (m.map (·.1)):=⟨List.pairwise_map.2 (h.imp fun h=>Uv h),fun _=>Iff.rfl⟩
def C8(w:World)(ks:List (List UInt8))(e:Ending)(w':World):Prop:= ∃v,e=.returned v∧w'.ownsRow w.heap.size 9 1 v ks.length (ks.map encStr)∧Below w.heap.size w w'
def Says(b:Bool)(w:World)(e:Ending)(w':World):Prop:=e=.returned (.bool b)∧Below w.heap.size w w'
def aP(w:World)(base:Nat)(v:Value)(es:List Ev):Prop:=w.ownsRow base 31 8 v es.length (aj es)
def vN(w:World)(es:List Ev)(p:Ev→Bool)(e:Ending)(w':World):Prop:= ∃v,e=.returned v∧aP w' w.heap.size v (es.filter p)∧Below w.heap.size w w'
theorem aP.gB{w:World}{base base':Nat}{v:Value}{es:List Ev}(h:aP w base v es)(hb:base'≤base):aP w base' v es:=by
 refine⟨h.1,?_⟩;rcases h.2 with⟨e,hl⟩|⟨g,cap,cur,e,hb',hg,hr⟩;·exact .inl ⟨e,hl⟩
 ·exact .inr ⟨g,cap,cur,e,by omega,hg,hr⟩
def GJ(w:World)(ks:List (List UInt8))(e:Ending)(w':World):Prop:= ∃v r,e=.returned v∧fI r ks∧w'.ownsRow w.heap.size 9 1 v r.length (r.map encStr)∧Below w.heap.size w w'
theorem ES(ks:List (List UInt8)): ∃ss:List (List UInt8),ss.Nodup∧ ∀x,x∈ss↔x∈ks:=by
 induction ks with
  |nil=>exact⟨[],List.nodup_nil,fun x=>Iff.rfl⟩
  |cons k ks ih=>
   obtain⟨ss,h1,h2⟩:=ih;by_cases h:k∈ks;·exact⟨ss,h1,fun x=>by rw[h2 x];simp;intro e;subst e;exact h⟩
   ·exact⟨k::ss,List.nodup_cons.2 ⟨fun hk=>h ((h2 k).1 hk),h1⟩,fun x=>by simp[h2 x]⟩
theorem xY:(Tryz.prog.info? 9).map (fun i=>(i.zero,i.size,i.bytes))=some (some (.string ByteArray.empty),1,16):=by kernel_rfl
def Strs(w:World)(B:Nat)(A:Option Addr)(n c:Nat)(ss:List (List UInt8)):Prop:=az w B 1 A n c (ss.map encStr)
theorem Strs.len{w:World}{B n c:Nat}{A:Option Addr}{ss:List (List UInt8)}(h:Strs w B A n c ss):ss.length=n:=by have:=az.len h;simpa using this
theorem Strs.at_{w:World}{B n c:Nat}{A:Option Addr}{ss:List (List UInt8)}(h:Strs w B A n c ss)(k:Nat)(hk:k<ss.length): ∃b off,A=some ⟨b,off,none⟩∧b<B∧w.cell? ⟨b,off+k,none⟩=some (.string ⟨ss[k].toArray⟩):=by have hl:=h.len;obtain⟨b,off,e,hb,hc⟩:=az.cell h (by omega);exact⟨b,off,e,hb,hc k _ (by simp[hk,encStr])⟩
def nk(e:Ev):Bool:=ag e.src&&decide (1≤e.num)&&decide (e.num≤1099511627776)&&decide (0≤e.at_)&&decide (e.at_≤1099511627776)
def xD(e:Ev):Bool:=(e.kind==14)&&nk e&&ag e.per&&e.item.isEmpty&&(e.val==0)&&e.text.isEmpty
def Ev.small(e:Ev):Prop:=e.src.length≤1000000000∧e.per.length≤1000000000∧e.item.length≤1000000000∧e.text.length≤1000000000
theorem OA(w:World)(e:Ev)(hs:e.small)(hh:nk e=false):Calls Tryz.prog 81 #[e.agg] w (Says false w):=by
 obtain⟨s1,s2,s3,s4⟩:=hs;unfold Ev.agg;have HH:=qS ((ag e.src&&decide (1≤e.num)&&decide (e.num≤1099511627776)&&decide (0≤e.at_)&&decide (e.at_≤1099511627776))=false) (hh);clear hh;go_enter Tryz.func81,Tryz.ntmps81;go_wp2_with fail;refine(pE _ e.src s1).mono ?_;rintro r w1⟨rfl,rfl⟩;have hb:Below w.heap.size w (w.alloc (ai e)):=(Below.refl _ _).alloc (Nat.le_refl _) _;generalize ag e.src=ns at*;cases ns;·go_wp2;go_ret;exact⟨rfl,hb⟩
 ·by_cases h1:e.num<1;·go_wp2;go_ret;exact⟨rfl,hb⟩
  by_cases h2:1099511627776<e.num;·go_wp2;go_ret;exact⟨rfl,hb⟩
  by_cases h3:e.at_<0;·go_wp2;go_ret;exact⟨rfl,hb⟩
  have h4:1099511627776<e.at_:=by have:=HH.o;simp at this;omega
  go_wp2;go_ret;exact⟨rfl,hb⟩
theorem XP(w:World)(l:List UInt8)(hm:l.length≤1000000000):Calls Tryz.prog 60 #[.string ⟨l.toArray⟩] w fun e w'=>e=.returned (.bool (ag l))∧w'=w:=(pE w l hm).mono fun _ _ h=>⟨h.1,h.2.symm⟩
theorem Il(w:World)(e:Ev)(hs:e.small)(hh:nk e=true)(hk:e.kind=14):Calls Tryz.prog 81 #[e.agg] w (Says (ag e.per&&e.item.isEmpty&&(e.val==0)&&e.text.isEmpty) w):=by
 obtain⟨s1,s2,s3,s4⟩:=hs;have hh':(ag e.src&&decide (1≤e.num)&&decide (e.num≤1099511627776)&&decide (0≤e.at_)&&decide (e.at_≤1099511627776))=true:=hh;simp only[Bool.and_eq_true,decide_eq_true_eq]at hh';obtain⟨⟨⟨⟨hns,h1⟩,h2⟩,h3⟩,h4⟩:=hh';have Wn:=qH hns;clear hns hh;have d1:decide (e.num<1)=false:=decide_eq_false (by omega);have d2:decide (1099511627776<e.num)=false:=decide_eq_false (by omega);have d3:decide (e.at_<0)=false:=decide_eq_false (by omega);have d4:decide (1099511627776<e.at_)=false:=decide_eq_false (by omega);have HK:=qH hk;clear hk;unfold Ev.agg;go_enter Tryz.func81,Tryz.ntmps81;go_wp2_with fail;refine(pE _ e.src s1).mono ?_;rintro r w1⟨rfl,rfl⟩;rw[Wn.o];have hb:Below w.heap.size w (w.alloc (ai e)):=(Below.refl _ _).alloc (Nat.le_refl _) _;obtain⟨f0,f1,f2,f3,f4,f5,f6,f7⟩:=dO.new w e;generalize w.alloc (ai e)=w1 at*;rw[HK.o]at f3;go_wp2;clear d1 d2 d3 d4;go_quiet((go_at_call 60;exact Calls.quiet_of_same (XP _ _ (by assumption))));have hbq:Below w.heap.size w (w1.drewN nq):=below_drewN hb nq;generalize ag e.per=np at*;generalize ag e.item=ni at*;cases np;·go_wp2;go_ret;exact⟨rfl,hbq⟩
 cases hi:e.item.isEmpty;·go_wp2;go_ret;exact⟨by rw[hi];rfl,hbq⟩
 cases hv:(e.val==0);·go_wp2;go_ret;exact⟨by rw[hi,hv];rfl,hbq⟩
 go_wp2;go_ret;exact⟨by rw[hi,hv];rfl,hbq⟩
def bf(w:World):Prop:= ∃m,w.cell? ⟨0,0,none⟩=some (.int .i64 m)
theorem bf.lt{w:World}(h:bf w):0<w.heap.size:=by obtain⟨m,h⟩:=h;exact World.block_lt_of_cell? w ⟨0,0,none⟩ h
theorem bf.below{w w':World}{B:Nat}(h:bf w)(hb:Below B w w')(hB:0<B):bf w':=by obtain⟨m,h⟩:=h;exact⟨m,(hb.cell (p:=⟨0,0,none⟩) hB).trans h⟩
theorem bf.up{w w':World}(h:bf w)(hb:Below w.heap.size w w'):bf w':=h.below hb h.lt
def gy(s:List UInt8):List UInt8:=(Lib.cut s [59]).2.1
def fw(s:List UInt8):List (List UInt8):=if(gy s).isEmpty then[]else(Lib.splitB ⟨#[44]⟩ 0 (Lib.countB ⟨(gy s).toArray⟩ ⟨#[44]⟩) ⟨(gy s).toArray⟩).map (fun b=>b.data.toList)
theorem sW(s:List UInt8):(gy s).length≤s.length:=by
 unfold gy Lib.cut;split;·simp
 ·simp
theorem U8(b:ByteArray):(⟨b.data.toList.toArray⟩:ByteArray)=b:=by cases b;simp
theorem NL(w:World)(s:List UInt8)(hs:s.length≤1000000000)(hm:bf w):Calls Tryz.prog 187 #[.string ⟨s.toArray⟩] w fun e w'=> ∃A c,e=.returned (.slice A (fw s).length c)∧Strs w' w'.heap.size A (fw s).length c (fw s)∧Below w.heap.size w w':=by
 obtain⟨m,hmc⟩:=hm;have HM:=qH hmc;clear hmc;have HR:=qS ((Lib.cut s [59]).2.1=gy s) (rfl);have hrl:=sW s;have HT:=qS (fw s=if(gy s).isEmpty then[]else(Lib.splitB ⟨#[44]⟩ 0 (Lib.countB ⟨(gy s).toArray⟩ ⟨#[44]⟩) ⟨(gy s).toArray⟩).map (fun b=>b.data.toList)) (rfl);go_enter Tryz.func187,Tryz.ntmps187;go_wp2_with fail;refine(Tryz.strings_Cut ⟨s.toArray⟩ ⟨#[59]⟩ m w (by simp[ByteArray.size];omega) HM.o).mono ?_;rintro q w1⟨rfl,n1,rfl⟩;simp only;rw[HR.o];generalize gy s=rest at*;generalize(Lib.cut s [59]).1=mk at*;generalize(Lib.cut s [59]).2.2=ok at*;cases he:rest.isEmpty
 ·go_wp2_with fail;refine(Tryz.strings_Split ⟨rest.toArray⟩ ⟨#[44]⟩ m (w.drewN n1) (by simp[ByteArray.size];omega) HM.o (by simp[ByteArray.size])).mono ?_;rintro q w2⟨rfl,rfl⟩;have hT:=HT.o;rw[he]at hT;simp only[Bool.false_eq_true,if_false]at hT;have hl:(fw s).length=Lib.countB ⟨rest.toArray⟩ ⟨#[44]⟩+1:=by rw[hT,List.length_map];exact(Lib.splitB_all ⟨#[44]⟩ (by simp[ByteArray.size]) 0 _ ⟨rest.toArray⟩ rfl)
  have hE:(Lib.splitB ⟨#[44]⟩ 0 (Lib.countB ⟨rest.toArray⟩ ⟨#[44]⟩) ⟨rest.toArray⟩).map Value.string=(fw s).map encStr:=by rw[hT,List.map_map];refine List.map_congr_left fun b _=>?_;show Value.string b=.string ⟨b.data.toList.toArray⟩;rw[U8]
  have HL:=qH hl;have HE:=qH hE;clear hl hE hT;have hcb:Lib.countB ⟨rest.toArray⟩ ⟨#[44]⟩≤1000000000:=by have:=Lib.countB_le ⟨#[44]⟩ (by simp[ByteArray.size]) _ ⟨rest.toArray⟩ (Nat.le_refl _);simp[ByteArray.size]at this;omega
  go_wp2;go_ret;refine⟨some ⟨w.heap.size,0,none⟩,Lib.countB ⟨rest.toArray⟩ ⟨#[44]⟩+1,by rw[HL.o];rfl,?_,((below_drewN (Below.refl _ _) n1).alloc (by simp) _)⟩;rw[HE.o,←HL.o];have h:=az.new (w.drewN n1) ((fw s).map encStr).toArray 9 (n:=(fw s).length) (size:=1) (by rw[HL.o];unfold maxLen;omega) (by simp);unfold Strs;simpa using h
 ·have hT:=HT.o;rw[he]at hT;simp only[if_true]at hT;have Nv:=qH hT;clear hT;go_wp2;go_ret;exact⟨none,0,by rw[Nv.o];rfl,by rw[Nv.o];exact az.nil _ _ _ _ _ (by unfold maxLen;omega),below_drewN (Below.refl _ _) n1⟩
def qG(ts:List (List UInt8))(j:Nat):Bool:=ag (ts.getD j [])&&(j==0||Op.bytesLess (ts.getD (j-1) []) (ts.getD j []))
def lW(ts:List (List UInt8)):Bool:=(List.range ts.length).all (qG ts)
def bQ(s:List UInt8):Bool:=(Lib.cut s [59]).2.2&&ag (Lib.cut s [59]).1&&decide ((fw s).length≤8)&&lW (fw s)
theorem wT(s:List UInt8):(Lib.cut s [59]).1.length≤s.length:=by
 unfold Lib.cut;split;·simp;omega
 ·simp
theorem jN(w:World)(l:List UInt8):Calls Tryz.prog 60 #[.string ⟨l.toArray⟩] w fun e w'=>e=.returned (.bool (ag l))∧w=w':=by
 by_cases h:l.length≤1000000000;·exact pE w l h
 ·have h24:24<l.length:=by omega
  have h0: ¬l.length<1:=by omega
  go_enter Tryz.func60,Tryz.ntmps60;go_wp2;go_ret;rw[dN (.inr h24)];exact⟨rfl,rfl⟩
def Tk(ts:List (List UInt8))(w2:World)(i:Value)(wr:World):Prop:= ∃k:Nat,i=.int .i64 k∧k≤ts.length∧wr=w2∧Hid (∀j,j<k→qG ts j=true)
theorem Fa(w:World)(s:List UInt8)(hs:s.length≤1000000000)(hm:bf w):Calls Tryz.prog 141 #[.string ⟨s.toArray⟩] w (Says (bQ s) w):=by
 have QH:=qH hm;obtain⟨m,hmc⟩:=hm;have HM:=qH hmc;clear hmc;have mO:=qS (bQ s=((Lib.cut s [59]).2.2&&ag (Lib.cut s [59]).1&&decide ((fw s).length≤8)&&lW (fw s))) (rfl);have hcl:=wT s;go_enter Tryz.func141,Tryz.ntmps141;go_wp2_with fail;refine(Tryz.strings_Cut ⟨s.toArray⟩ ⟨#[59]⟩ m w (by simp[ByteArray.size];omega) HM.o).mono ?_;rintro q w1⟨rfl,n1,rfl⟩;simp only;have hb1:Below w.heap.size w (w.drewN n1):=below_drewN (Below.refl _ _) n1;generalize(Lib.cut s [59]).1=mk at*;generalize(Lib.cut s [59]).2.1=rs at*;generalize(Lib.cut s [59]).2.2=ok at*;have oH:=qH (QH.o.up hb1);generalize w.drewN n1=w1 at*;cases ok;·go_wp2;go_ret;exact⟨ae (by rw[mO.o];rfl),hb1⟩
 go_wp2_with fail;refine(pE w1 mk (by omega)).mono ?_;rintro q w2⟨rfl,rfl⟩;generalize ag mk=nm at*;cases nm;·go_wp2;go_ret;exact⟨ae (by rw[mO.o];rfl),hb1⟩
 go_wp2_with fail;refine(NL w1 s hs oH.o).mono ?_;rintro q w2⟨A,c,rfl,hst,hb2⟩;have hbw2:Below w.heap.size w w2:=hb1.trans (hb2.mono hb1.size);have HS:=qH hst;clear hst;generalize fw s=ts at*;by_cases h8:8<ts.length
 ·have t8:(8:Int)<ts.length:=by omega
  have HF:=qS (bQ s=false) (by rw[mO.o,decide_eq_false (show¬ts.length≤8 by omega)];simp);go_wp2;go_ret;exact⟨ae HF.o.symm,hbw2⟩
 have HG:=qS (bQ s=lW ts) (by rw[mO.o,decide_eq_true (show ts.length≤8 by omega)];simp);clear mO;go_wp2;go_loopw[29](fun i wr=>Tk ts w2 i wr)(fun i _=>ts.length-(intOf i).toNat);case atStart=>exact⟨0,rfl,Nat.zero_le _,rfl,fun j h=>by omega⟩
 case round=>
  obtain⟨k,rfl,hk,rfl,HK⟩:=hrel;by_cases hkn:k<ts.length
  ·obtain⟨b,off,rfl,hb,hc⟩:=HS.o.at_ k hkn;have HB:=qS (qG ts k=(ag ts[k]&&(k==0||Op.bytesLess (ts.getD (k-1) []) ts[k]))) (by unfold qG;simp[List.getD,List.getElem?_eq_getElem hkn]);have xx:=qS (qG ts k=false→lW ts=false) (fun h=>by unfold lW;rw[List.all_eq_false];exact⟨k,by simpa using hkn,by simp[h]⟩);have qJ:=qS (qG ts k=true→ ∀j,j<k+1→qG ts j=true) (fun h j hj=>by
    by_cases e:j=k;·subst e;exact h
    ·exact HK.o j (by omega));have hts:ts.length≤8:=by omega
   have jG:=qS (0<k→wr.cell? ⟨b,off+(k-1),none⟩=some (.string ⟨(ts.getD (k-1) []).toArray⟩)) (fun h0=>by obtain⟨b',off',e',_,hc'⟩:=HS.o.at_ (k-1) (by omega);injection e' with e';injection e' with e1 e2;subst e1 e2;rw[hc'];simp[List.getD,List.getElem?_eq_getElem (show k-1<ts.length by omega)]);generalize ts.getD (k-1) []=q at*;have t1:(k:Int)<ts.length:=by omega
   generalize ts[k]=t at*;go_wp2_with fail;refine(jN wr t).mono ?_;rintro e w3⟨rfl,rfl⟩;generalize ag t=nt at*;cases nt;·have HF:=qH (xx.o (by rw[HB.o];rfl));go_wp2;go_ret;exact⟨ae (by rw[HG.o,HF.o]),hbw2⟩
   by_cases k0:k=0
   ·subst k0;have HY:=qH (qJ.o (by rw[HB.o];rfl));go_wp2;go_roundw;case rel=>exact⟨1,by go_num,by omega,rfl,HY.o⟩
    case measure=>simp[intOf];omega
   ·have hc1:=jG.o (by omega);have k1:(0:Int)<k:=by omega
    have ek:(k:Int)-1=((k-1:Nat):Int):=by omega
    have Rp:=qS (qG ts k=Op.bytesLess q t) (by rw[HB.o];simp[k0]);cases hbl:Op.bytesLess q t;·have HF:=qH (xx.o (Rp.o.trans hbl));go_wp2;go_ret;exact⟨ae (by rw[HG.o,HF.o]),hbw2⟩
    ·have HY:=qH (qJ.o (Rp.o.trans hbl));go_wp2;go_roundw;case rel=>exact⟨k+1,by go_num,by omega,rfl,HY.o⟩
     case measure=>simp[intOf];omega
  ·have HT:=qS (lW ts=true) (by
    unfold lW;rw[List.all_eq_true];intro j hj;exact HK.o j (by
     have:j<ts.length:=by simpa using hj
     omega));go_wp2;go_ret;exact⟨ae (by rw[HG.o,HT.o]),hbw2⟩
def Jc(n:Nat)(p:Nat→Bool)(w:World)(e:Ending)(w':World):Prop:= ∃k:Nat,e=.returned (.int .i64 k)∧k≤n∧(∀i,i<k→p i=false)∧(∀i,k≤i→i<n→p i=true)∧Below w.heap.size w w'
def MX(n:Nat)(p:Nat→Bool)(w:World)(s5 s6:Value)(wr:World):Prop:= ∃lo hi:Nat,s5=.int .i64 lo∧s6=.int .i64 hi∧lo≤hi∧hi≤n∧Below w.heap.size w wr∧(∀i,i<lo→p i=false)∧(∀i,hi≤i→i<n→p i=true)
theorem ru(w:World)(g:Nat)(cb:Array Value)(n:Nat)(p:Nat→Bool)(hn:n≤1000000000)(hcall: ∀(args:Array Value)(w:World),(callFunc g args).run Tryz.prog w=.ok (.enter g args) w)(hf: ∀(w1:World)(i:Nat),Below w.heap.size w w1→i<n→Calls Tryz.prog g (#[.int .i64 i]++cb) w1 (Says (p i) w1))(hmono: ∀i j,i≤j→j<n→p i=true→p j=true):Calls Tryz.prog 86 #[.int .i64 n,.func (.func g) #[] cb] w (Jc n p w):=by
 have HF:=qH hf;have HM:=qH hmono;clear hf hmono;go_enter Tryz.func86,Tryz.ntmps86;go_wp2;go_loopw[5,6](fun s5 s6 wr=>MX n p w s5 s6 wr)(fun s5 s6 _=>(intOf s6-intOf s5).toNat);case atStart=>exact⟨0,n,rfl,rfl,Nat.zero_le _,Nat.le_refl _,Below.refl _ _,fun i h=>by omega,fun i h h'=>by omega⟩
 case round=>
  obtain⟨lo,hi,rfl,rfl,hlh,hhn,hbel,h1,h2⟩:=hrel;have H1:=qH h1;have H2:=qH h2;clear h1 h2;by_cases hlt:lo<hi
  ·have hc:=HF.o wr ((lo+hi)/2) hbel (by omega);rw[show(((lo+hi)/2:Nat):Int)=((lo:Int)+(hi:Int))/2 by omega]at hc;have HC:=qH hc;clear hc;go_wp2_with fail;refine HC.o.mono ?_;rintro e w1⟨rfl,hb1⟩;have hbw:Below w.heap.size w w1:=hbel.trans (hb1.mono hbel.size);clear hb1 hcall;cases hp:p ((lo+hi)/2)
   ·have HP:=qH hp;clear hp;go_wp2;go_roundw;case rel=>
     refine⟨(lo+hi)/2+1,hi,by go_num,rfl,by omega,hhn,hbw,fun i hi'=>?_,H2.o⟩;cases hpi:p i;·rfl
     ·have:=HM.o i ((lo+hi)/2) (by omega) (by omega) hpi;rw[HP.o]at this;cases this
    case measure=>simp[intOf];omega
   ·have HP:=qH hp;clear hp;go_wp2;go_roundw;case rel=>refine⟨lo,(lo+hi)/2,rfl,by go_num,by omega,by omega,hbw,H1.o,fun i hi' hn'=>?_⟩;exact HM.o _ _ hi' hn' HP.o
    case measure=>simp[intOf];omega
  ·have e:hi=lo:=by omega
   have HE:=qH e;clear e;go_wp2;go_ret;exact⟨lo,rfl,by omega,H1.o,fun i hi' hn'=>H2.o i (by rw[HE.o];exact hi') hn',hbel⟩
theorem kP(w:World)(B B':Nat)(A A':Option Addr)(n c c':Nat)(es:List Ev)(h:fV w B A n c es)(h':fV w B' A' n c' es)(hn:n≤100000):Calls Tryz.prog 52 #[.slice A n c,.slice A' n c'] w fun e w'=>e=.returned (.bool true)∧ ∃k,w'=w.drewN k:=by
 have HH:=qH h;clear h;have ND:=qH h';clear h';have hnn:((n:Int)!=(n:Int))=false:=by simp
 go_enter Tryz.func52,Tryz.ntmps52;go_wp2;clear hnn;go_loopw[5](fun i wr=> ∃k q:Nat,i=.int .i64 k∧k≤n∧wr=w.drewN q)(fun i _=>n-(intOf i).toNat);case atStart=>exact⟨0,0,rfl,Nat.zero_le _,rfl⟩
 case round=>
  obtain⟨k,q,rfl,hk,rfl⟩:=hrel;by_cases hkn:k<n
  ·have hkl:k<es.length:=by rw[HH.o.len];exact hkn
   obtain⟨b,off,rfl,hb,hc⟩:=HH.o.ev k hkl;obtain⟨b',off',rfl,hb',hc'⟩:=ND.o.ev k hkl;obtain⟨e0,e1,e2,e3,e4,e5,e6,e7⟩:=hc;obtain⟨f0,f1,f2,f3,f4,f5,f6,f7⟩:=hc';have t1:(k:Int)<n:=by omega
   generalize es[k]=x at*;go_wp2;go_quiet(fail);go_wp2;go_roundw;case rel=>exact⟨k+1,q+nq,by go_num,by omega,by first|rfl|exact World.drewN_drewN ..⟩
   case measure=>simp[intOf];omega
  ·go_wp2;go_ret;exact⟨rfl,_,rfl⟩
def pU(e:Ev)(m:Int):Bool:=decide (m<e.src.length)||decide (m<e.per.length)||decide (m<e.item.length)||decide (m<e.text.length)
theorem Ta(w:World)(e:Ev)(m:Int):Calls Tryz.prog 23 #[e.agg,.int .i64 m] w (Says (pU e m) w):=by
 have HB:=qS (pU e m=(decide (m<e.src.length)||decide (m<e.per.length)||decide (m<e.item.length)||decide (m<e.text.length))) (rfl);have hb:Below w.heap.size w (w.alloc (ai e)):=(Below.refl _ _).alloc (Nat.le_refl _) _;unfold Ev.agg;cases h1:decide (m<(e.src.length:Int))
 ·cases h2:decide (m<(e.per.length:Int))
  ·cases h3:decide (m<(e.item.length:Int));·have HX:=qS (pU e m=decide (m<e.text.length)) (by rw[HB.o,h1,h2,h3];rfl);go_enter Tryz.func23,Tryz.ntmps23;go_wp2;go_ret;exact⟨ae HX.o.symm,hb⟩
   ·have HX:=qS (pU e m=true) (by rw[HB.o,h1,h2,h3];rfl);go_enter Tryz.func23,Tryz.ntmps23;go_wp2;go_ret;exact⟨ae HX.o.symm,hb⟩
  ·have HX:=qS (pU e m=true) (by rw[HB.o,h1,h2];rfl);go_enter Tryz.func23,Tryz.ntmps23;go_wp2;go_ret;exact⟨ae HX.o.symm,hb⟩
 ·have HX:=qS (pU e m=true) (by rw[HB.o,h1];rfl);go_enter Tryz.func23,Tryz.ntmps23;go_wp2;go_ret;exact⟨ae HX.o.symm,hb⟩
def jR(w:World)(n:Nat)(es:List Ev)(p:Ev→Bool)(v i:Value)(wr:World):Prop:= ∃k:Nat,i=.int .i64 k∧k≤n∧aP wr w.heap.size v ((es.take k).filter p)∧Below w.heap.size w wr
end Go.Proofs.YtbejfgmdkmddnaaGreatDoor
