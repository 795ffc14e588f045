/-
  A world for the witness: the settled one, where the five tables that a journal's row lists hold what their initialisers lay.
-/
import Derived.Test.YtejjfhhppjdcaaaGreatDoorBOpenArgs
namespace Go.Proofs.YtejjfhhppjdcaaaGreatDoor
open Go.RowKit

def firstInts : List Int := List.replicate 128 240 ++ List.replicate 66 241 ++ List.replicate 30 2 ++ [19] ++ List.replicate 12 3 ++ [35, 3, 3, 52, 4, 4, 4, 68] ++ List.replicate 11 241
def rangeInts : List Int := [128, 191, 160, 191, 128, 159, 144, 191, 128, 143] ++ List.replicate 22 0
def layInts (l : List Int) : Obj → Obj
  | .cells _ t frozen => .cells (l.map (Value.int .u8)).toArray t frozen
  | o => o
/-- the values of a laid table -/
def datVal : DataW Unit → Value
  | .lit (.int k z) => .int k z
  | _ => .bool false
def datVals : DataW Unit → List Value
  | .agg l => l.map datVal
  | _ => []
def layVals (d : DataW Unit) : Obj → Obj
  | .cells _ t frozen => .cells (datVals d).toArray t frozen
  | o => o
noncomputable def laidWorld (os : Os) : World :=
  { World.holding Tryz.prog os ⟨#[], #[], []⟩ with
    heap := ((((((World.holding Tryz.prog os ⟨#[], #[], []⟩).heap.modify 4 (layInts firstInts)).modify 5 (layInts rangeInts)).modify 2 (layVals Rows.laid_math_bits_deBruijn32tab)).modify 3 (layVals Rows.laid_math_bits_deBruijn64tab)).modify 0 (layVals Rows.laid_internal_strconv_uint64pow10)) }
end Go.Proofs.YtejjfhhppjdcaaaGreatDoor
