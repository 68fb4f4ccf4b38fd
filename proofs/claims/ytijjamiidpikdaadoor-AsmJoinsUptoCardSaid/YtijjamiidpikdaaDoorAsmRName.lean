/-
  The walks of the reference's name and text: an operation's name, a number's text. Conditions: an operation of 1 to 24; a number of at most 99999.
-/
import Derived.Test.YtijjamiidpikdaaDoorAsmLinePlain
import Derived.Test.YtijjamiidpikdaaDoorAsmFig
import Derived.Test.YtijjamiidpikdaaDoorRegionU
import Derived.Test.YtijjamiidpikdaaDoorRow
namespace Go.Proofs.YtijjamiidpikdaaDoor.Asm
open Go.RowKit

set_option maxHeartbeats 3200000 in
theorem rname_any (n : Nat) (h1 : 1 ≤ n) (h2 : n ≤ 24) (w : World) :
    Calls Tryd.prog 26 #[.int .i64 n] w fun e w' => e = .returned (.string ⟨(nameOf n).toArray⟩) ∧ Below w.heap.size w w' := by
  have h : n = 1 ∨ n = 2 ∨ n = 3 ∨ n = 4 ∨ n = 5 ∨ n = 6 ∨ n = 7 ∨ n = 8 ∨ n = 9 ∨ n = 10 ∨ n = 11 ∨ n = 12 ∨ n = 13 ∨ n = 14 ∨ n = 15 ∨ n = 16 ∨ n = 17 ∨ n = 18 ∨ n = 19 ∨ n = 20 ∨ n = 21 ∨ n = 22 ∨ n = 23 ∨ n = 24 := by omega
  rcases h with rfl | rfl | rfl | rfl | rfl | rfl | rfl | rfl | rfl | rfl | rfl | rfl | rfl | rfl | rfl | rfl | rfl | rfl | rfl | rfl | rfl | rfl | rfl | rfl
  all_goals
    go_enter Tryd.func26, Tryd.ntmps26
    go_wp2
    go_ret
    exact ⟨rfl, below_new _ _⟩

end Go.Proofs.YtijjamiidpikdaaDoor.Asm
