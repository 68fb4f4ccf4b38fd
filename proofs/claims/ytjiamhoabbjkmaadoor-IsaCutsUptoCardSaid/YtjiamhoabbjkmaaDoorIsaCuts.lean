/-
  The walk of IsaCuts: bytes whose number is not four for each are no program's. Conditions: the table isa.uses as laid; at most 1048576 bytes.
-/
import Derived.Test.YtjiamhoabbjkmaaDoorIsaShown
import Derived.Test.YtjiamhoabbjkmaaDoorIsaBackW
namespace Go.Proofs.YtjiamhoabbjkmaaDoor.Isa
open Go.RowKit

set_option maxHeartbeats 800000 in
theorem cuts_walk (s : ByteArray) (w : World) (hT : Tab w) (hs : s.size ≤ 1048576) :
    Calls Tryd.prog 8 #[.string s] w fun e w' => e = .returned (.bool true) ∧ Below w.heap.size w w' := by
  have hT' := hide hT
  clear hT
  have hE : ((s.size : Int) % 4 != 0) = (backE s == 2) := by
    unfold backE
    by_cases h : s.size % 4 = 0
    · rw [if_pos h]
      have h1 : ((s.size : Int) % 4 != 0) = false := by rw [bne_eq_false_iff_eq]; omega
      rw [h1]
      split <;> rfl
    · rw [if_neg h]
      have h1 : ((s.size : Int) % 4 != 0) = true := by rw [bne_iff_ne]; omega
      rw [h1]
      rfl
  have HE := hide hE
  clear hE
  go_enter Tryd.func8, Tryd.ntmps8
  go_wp2_with fail
  refine (shown_any _ hT'.out).mono ?_
  rintro e w1 ⟨rfl, hb1⟩
  have hB1 := hide hb1
  clear hb1
  go_wp2_with fail
  refine (back_any s _ (by exact hT'.out.below hB1.out) hs).mono ?_
  rintro e w2 ⟨A, n, c, rfl, -, hb2⟩
  have hB2 := hide (hB1.out.trans (hb2.mono hB1.out.size))
  clear hb2
  have h1 := HE.out
  cases h2 : (backE s == 2) with
  | true =>
    rw [h2] at h1
    go_wp2
    go_ret
    exact ⟨rfl, hB2.out⟩
  | false =>
    rw [h2] at h1
    go_wp2
    go_ret
    exact ⟨rfl, hB2.out⟩

end Go.Proofs.YtjiamhoabbjkmaaDoor.Isa
