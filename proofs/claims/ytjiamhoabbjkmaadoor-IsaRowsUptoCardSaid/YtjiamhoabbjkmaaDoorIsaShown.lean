/-
  The walk of the statements' common head, shown(): it answers true. Conditions: the table isa.uses as laid.
-/
import Derived.Test.YtjiamhoabbjkmaaDoorIsaWord
namespace Go.Proofs.YtjiamhoabbjkmaaDoor.Isa
open Go.RowKit

set_option maxHeartbeats 400000 in
theorem shown_any (w : World) (hT : Tab w) : Calls Tryd.prog 11 #[] w fun e w' => e = .returned (.bool true) ∧ Below w.heap.size w w' := by
  have hT' := Lib.hid hT
  clear hT
  go_enter Tryd.func11, Tryd.ntmps11
  go_wp2_with fail
  refine (word_ok 1 1 0 (-1) _ hT'.out (by decide)).mono ?_
  rintro e w1 ⟨rfl, hb⟩
  rw [show wordN 1 1 0 (-1) = 17891327 by decide]
  go_wp2
  go_ret
  exact ⟨rfl, hb⟩

end Go.Proofs.YtjiamhoabbjkmaaDoor.Isa
