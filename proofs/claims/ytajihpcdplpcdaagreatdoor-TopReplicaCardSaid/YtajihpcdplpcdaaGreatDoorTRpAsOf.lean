/-
  Layer 33: AsOf.
-/
import Derived.Test.YtajihpcdplpcdaaGreatDoorTRpNew
set_option maxRecDepth 100000
set_option maxHeartbeats 16000000
namespace Go.Proofs.YtajihpcdplpcdaaGreatDoor
open Go.RowKit Go.Maps Go.Sort Go.Shelf
def RpAsPost(w:World)(N:Nat)(x:Itk)(e:Ending)(w':World):Prop:= ∃bi R,e=.returned (.tuple #[.pointer (some ⟨bi,0,none⟩),.int .i64 0])∧ItkAt w' R bi N x∧RowKit.Below w.heap.size w w'∧ ∀b,R b→w.heap.size≤b
theorem rpasof_any(w:World)(G F:Nat→Prop)(bj bd:Nat)(j:Jl)(hj:JlIn w G F bj bd j)(ds:List Ev)(hes:j.es=ds.map some)(slack idle:Int)(off:Nat)(hoff:off≤ds.length)(hlen:ds.length≤60)(hmx:MaxAt w):Calls Tryz.prog 8 #[.pointer (some ⟨bj,0,none⟩),.int .i64 slack,.int .i64 idle,.int .i64 off] w (RpAsPost w (2*off) (admAll (Itk.new slack idle) (ds.take off))):=by
 have HJ:=qH hj;have HMX:=qH hmx;have HES:=qH hes;have HLE:=qH (show j.es.length=ds.length from by rw[hes,List.length_map]);have HLN:=qH (jllen_any w G F bj bd j hj);rw[HLE.out]at HLN;have t1: ¬(off:Int)<0:=by omega
 have t2: ¬(ds.length:Int)<off:=by omega
 clear hj hmx hes;go_enter Tryz.func8,Tryz.ntmps8;go_wp2_with fail;refine HLN.out.mono ?_;rintro r w1⟨rfl,rfl⟩;go_wp2_with fail;refine(rpnew_any w G F bj bd j HJ.out slack idle HMX.out).mono ?_;rintro r w2⟨br,bi,R,rfl,hr2,hb2,hR2,hbr2⟩;have HR2:=qH hr2;have HB2:=qH hb2;have HN2:=qH (show(∀b,R b→w.heap.size≤b)∧w.heap.size≤br from⟨hR2,hbr2⟩);have hs2:=hb2.size;clear hr2 hb2 hR2 hbr2;go_wp2_with fail;refine(rppull_any w2 G F R br bj bd bi 0 j _ 0 HR2.out ds HES.out off off (by omega) (by omega) hlen (by omega) (HMX.out.up HB2.out)).mono ?_;rintro r w3⟨rfl,R3,hr3,hk3,hR3⟩;obtain⟨_,c1,_⟩:=hr3.cells;have HP:=qH (show RpAsPost w (2*off) (admAll (Itk.new slack idle) (ds.take off)) (.returned (.tuple #[.pointer (some ⟨bi,0,none⟩),.int .i64 0])) w3 from by refine⟨bi,R3,rfl,?_,HB2.out.trans (hk3.below hs2 (fun b hb hg=>by rcases hg with h|h;(·have:=HN2.out.1 b h;omega);(·have:=HN2.out.2;omega))),fun b hb=>(hR3 b hb).elim (HN2.out.1 b) (fun h=>by omega)⟩;have:=hr3.it;rw[List.drop_zero,Nat.zero_add]at this;exact this);clear hr3 hk3 hR3;generalize admAll (Itk.new slack idle) _=x3 at*;go_wp2;exact bodyPost_ret (v:=.tuple #[.pointer (some ⟨bi,0,none⟩),.int .i64 0]) (by simp[results,Tryz.results8,go_sem]) rfl HP.out
end Go.Proofs.YtajihpcdplpcdaaGreatDoor
