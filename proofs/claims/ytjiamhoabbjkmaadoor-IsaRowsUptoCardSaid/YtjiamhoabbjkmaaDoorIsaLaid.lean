/-
  A world for the witnesses of the instructions' laws: the settled one, the table isa.uses as its initialiser lays it. Conditions: none.
-/
import Derived.Test.YtjiamhoabbjkmaaDoorIsaArgs
import Derived.Test.YtjiamhoabbjkmaaDoorCards
import Derived.Test.YtjiamhoabbjkmaaDoorTie
namespace Go.Proofs.YtjiamhoabbjkmaaDoor.Isa
open Go.ChangeShapes Go.WideShapes Go.ChangeAt Go.RowKit Go.Joins

noncomputable def laidWorld (os : Os) : World :=
  { World.holding Tryd.prog os ⟨#[], #[], []⟩ with heap := (World.holding Tryd.prog os ⟨#[], #[], []⟩).heap.modify 0 fun
      | .cells _ t frozen => .cells (usesL.map fun z => Value.int .i64 z).toArray t frozen
      | o => o }

end Go.Proofs.YtjiamhoabbjkmaaDoor.Isa
