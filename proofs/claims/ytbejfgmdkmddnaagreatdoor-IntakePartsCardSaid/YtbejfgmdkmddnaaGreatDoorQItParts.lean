/-
  The law IntakeParts, walked.
-/
import Derived.Test.YtbejfgmdkmddnaaGreatDoorQItPartA
import Derived.Test.YtbejfgmdkmddnaaGreatDoorQItPartB
import Derived.Test.YtbejfgmdkmddnaaGreatDoorQItPartC
set_option maxRecDepth 100000
set_option maxHeartbeats 16000000
namespace Go.Proofs.YtbejfgmdkmddnaaGreatDoor
open Go.RowKit Go.Maps Go.Sort Go.Shelf
theorem itparts_any(w:World)(slack idle:Int)(A:Option Addr)(n c:Nat)(ds:List Dd)(h:Dds w w.heap.size A n c ds)(hn:n≤140737488355328)(hkd: ∀d∈ds,0≤d.kind∧d.kind≤255)(A2:Option Addr)(n2 c2:Nat)(ms:List Dd)(h2:Dds w w.heap.size A2 n2 c2 ms)(hn2:n2≤140737488355328)(hkd2: ∀d∈ms,0≤d.kind∧d.kind≤255)(e:Ev)(which:Int)(hw0:0≤which)(hw1:which≤255)(hmx:MaxAt w)(he:ErrsAt w)(ht:Lib.TabBelow Tryz.prog w.heap.size w "internal/strconv.uint64pow10" .u64 Lib.pow10Tab):Calls Tryz.prog 6 #[.int .i64 slack,.int .i64 idle,.slice A n c,.slice A2 n2 c2,e.agg,.int .u8 which] w (Says true w):=by
 by_cases h4:which=0∨which=1∨which=2∨which=4;·exact itparts_a w slack idle A n c ds h hn hkd A2 n2 c2 ms h2 hn2 hkd2 e which hw0 hw1 h4 hmx he ht
 by_cases h5:which=3∨which=6∨which=7;·exact itparts_b w slack idle A n c ds h hn hkd A2 n2 c2 ms h2 hn2 hkd2 e which hw0 hw1 h5 hmx he ht
 ·exact itparts_c w slack idle A n c ds h hn hkd A2 n2 c2 ms h2 hn2 hkd2 e which hw0 hw1 (by omega) hmx he ht
end Go.Proofs.YtbejfgmdkmddnaaGreatDoor
