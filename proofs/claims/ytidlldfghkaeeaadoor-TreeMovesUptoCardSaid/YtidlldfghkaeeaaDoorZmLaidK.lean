/- Put together by pack.py: LaidK -/
import Derived.Test.YtidlldfghkaeeaaDoorCards
import Derived.Test.YtidlldfghkaeeaaDoorTie
import Derived.WalkKit
import Derived.ProofKit
import Derived.OpenShut
import Derived.Deep.DeepHandedRow
import Derived.Lib.LaidTab
namespace Go.Proofs.YtidlldfghkaeeaaDoor.LaidK
open Go.ChangeShapes Go.WideShapes Go.ChangeAt Go.RowKit

def ranges : Array Value := #[128, 191, 160, 191, 128, 159, 144, 191, 128, 143, 0, 0, 0, 0, 0, 0, 0, 0, 0, 0, 0, 0, 0, 0, 0, 0, 0, 0, 0, 0, 0, 0].map fun n : Nat => Value.int .u8 (n : Int)
noncomputable def firsts : Array Value := (Go.Pinned.utf8FirstZ.map fun n : Nat => Value.int .u8 (n : Int)).toArray
noncomputable def put (cs : Array Value) : Obj → Obj
  | .cells _ t frozen => .cells cs t frozen
  | o => o
/-- The settled world, the tables (blocks 1 and 2) holding what is listed. -/
noncomputable def laidWorld (os : Os) : World :=
  { World.holding Tryd.prog os ⟨#[], #[], []⟩ with heap := ((World.holding Tryd.prog os ⟨#[], #[], []⟩).heap.modify 2 (put ranges)).modify 1 (put firsts) }
theorem laid_met (os : Os) (args : Array Value) : laidMet Tryd.prog Rows.pathSaysRow.laid ((laidWorld os).forCall (fun _ _ => 0) ⟨#[], args, []⟩).memory :=
  laidMet_of_run' 8 (by kernel_rfl) (by kernel_rfl)
end Go.Proofs.YtidlldfghkaeeaaDoor.LaidK
