/-
  The law SnapshotSaves, walked.
-/
import Derived.Test.YtbejfgmdkmddnaaGreatDoorVRSnTx
import Derived.Test.YtbejfgmdkmddnaaGreatDoorVGrown
set_option maxRecDepth 100000
set_option maxHeartbeats 16000000
namespace Go.Proofs.YtbejfgmdkmddnaaGreatDoor
open Go.RowKit Go.Maps Go.Sort Go.Shelf
theorem Ef(w:World)(aa idle:Int)(A:Option Addr)(n c:Nat)(ds:List Dd)(h:Dn w w.heap.size A n c ds)(hn:n≤140737488355328)(hkd: ∀d∈ds,0≤d.kind∧d.kind≤255)(off:Int)(hmx:bf w)(xB:dV w)(htab:Lib.TabBelow Tryz.prog w.heap.size w "internal/strconv.uint64pow10" .u64 Lib.pow10Tab):Calls Tryz.prog 7 #[.int .i64 aa,.int .i64 idle,.slice A n c,.int .i64 off] w (Says true w):=by
 have HH:=qH h;clear h;have TN:=qH hkd;clear hkd;have jS:=qH hmx;have JD:=qH xB;have HT:=qH htab;clear hmx xB htab;have HW0:=qS (∀W,RowKit.Below w.heap.size w W→Says true w (.returned (.bool true)) W) (fun W hW=>⟨rfl,hW⟩);have qc:=qS (∀W,RowKit.Below w.heap.size w W→Dn W W.heap.size A n c ds) (fun W hW=>az.more (az.below HH.o hW) hW.size);go_enter Tryz.func7,Tryz.ntmps7;go_wp2_with fail;refine(pF w jS.o JD.o HT.o).mono ?_;rintro r w1⟨rfl,hb1⟩;have HB1:=qH hb1;clear hb1;go_wp2_with fail;refine(mZ w1 A n c ds (qc.o w1 HB1.o) hn 30).mono ?_;rintro r w2⟨rfl,hb2⟩;have HB2:=qH (HB1.o.trans (hb2.mono HB1.o.size));clear hb2;cases zY:j3 ds 30;case true=>have HR:=qH (HW0.o w2 HB2.o);clear zY;go_wp2;go_ret;exact HR.o
 obtain⟨hl,hsm⟩:=jg (m:=30) zY;have qL:=qH hsm;have hlen:=HH.o.len;have hn30:n≤30:=by omega
 clear zY hsm hl;go_wp2_with fail;refine(qp w2 aa idle A n c ds (qc.o w2 HB2.o) (by omega) qL.o TN.o (jS.o.up HB2.o)).mono ?_;rintro r w3⟨F,S,bi,bm,bc,rfl,hB⟩;have HB3:=qH (HB2.o.trans (hB.bN.mono HB2.o.size));have HG:=qH (bY.grown hB.both.gI (by omega));have HI:=qH hB.both.gI;have HM:=qH hB.both.ref;clear hB hlen;generalize ay.grown aa idle ds=x at*;by_cases hor:off<0∨1048576<off
 ·go_wp2_with fail;with_reducible refine(G8 w3 bi off hor).mono ?_
  rintro r w4⟨rfl,rfl⟩;have Tz:=qH (fun W=>El W (some ⟨bm,0,none⟩) off hor);clear hor;go_wp2_with fail;with_reducible refine(Tz.o _).mono ?_
  rintro r w5⟨rfl,rfl⟩;have HR:=qH (HW0.o _ HB3.o);have kc:=(bU.nil w3 w3.heap.size none 0 (by unfold maxLen;omega)).str (P:=Tryz.prog) 32 5 9 Tryz.underlying32 Tryz.underlying5 Tryz.underlying9;go_wp2;go_ret;exact HR.o
 obtain⟨o,rfl⟩:=Int.eq_ofNat_of_zero_le (show 0≤off by omega);have ho:o≤1048576:=by omega
 clear hor;go_wp2_with fail;with_reducible refine(iN w3 F bi (3*n) x HI.o HG.o (by omega) o (by omega) (by omega) (jS.o.up HB3.o) (fe HT.o HB3.o)).mono ?_
 rintro r w4⟨v4,rfl,ho4,hb4⟩;obtain⟨A4,c4,rfl⟩:=ho4.form;have fM:=qH (HB3.o.trans (hb4.mono HB3.o.size));have xL:=qH ho4.oF;have Wu:=qH (HM.o.up hb4);have Nc:=qH (Em w4 bm bc S (3*n) x Wu.o HG.o (by omega) o ho);clear ho4 hb4;generalize aD (jW o x)=l at*;go_wp2_with fail;with_reducible refine Nc.o.mono ?_
 rintro r w5⟨rfl,hb5⟩;have qE:=qH (fM.o.trans (hb5.mono fM.o.size));have kc:=((xL.o.below hb5).more hb5.size).str (P:=Tryz.prog) 32 5 9 Tryz.underlying32 Tryz.underlying5 Tryz.underlying9;have HR:=qH (HW0.o _ qE.o);clear hb5 Nc;go_wp2;go_ret;exact HR.o
end Go.Proofs.YtbejfgmdkmddnaaGreatDoor
