/-
  A world for the witness: the settled one, where the two tables of unicode/utf8 hold what their initialisers lay.
-/
import Derived.Test.YtoljbbmjbgepiaaGreatDoorOpenArgs
namespace Go.Proofs.YtoljbbmjbgepiaaGreatDoor
open Go.RowKit

def firstInts : List Int := List.replicate 128 240 ++ List.replicate 66 241 ++ List.replicate 30 2 ++ [19] ++ List.replicate 12 3 ++ [35, 3, 3, 52, 4, 4, 4, 68] ++ List.replicate 11 241
def rangeInts : List Int := [128, 191, 160, 191, 128, 159, 144, 191, 128, 143] ++ List.replicate 22 0
def layInts (l : List Int) : Obj → Obj
  | .cells _ t frozen => .cells (l.map (Value.int .u8)).toArray t frozen
  | o => o

noncomputable def laidWorld (os : Os) : World :=
  { World.holding Tryz.prog os ⟨#[], #[], []⟩ with
    heap := ((World.holding Tryz.prog os ⟨#[], #[], []⟩).heap.modify 1 (layInts firstInts)).modify 2 (layInts rangeInts) }
end Go.Proofs.YtoljbbmjbgepiaaGreatDoor
