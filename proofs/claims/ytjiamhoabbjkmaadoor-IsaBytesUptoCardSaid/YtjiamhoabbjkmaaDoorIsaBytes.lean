/-
  The walk of IsaBytes: Bytes and Back agree with the reference's. Conditions: the table isa.uses as laid; at most 1048576 instructions and bytes.
-/
import Derived.Test.YtjiamhoabbjkmaaDoorIsaShown
import Derived.Test.YtjiamhoabbjkmaaDoorIsaRBytes
import Derived.Test.YtjiamhoabbjkmaaDoorIsaRBack
import Derived.Test.YtjiamhoabbjkmaaDoorIsaSame
namespace Go.Proofs.YtjiamhoabbjkmaaDoor.Isa
open Go.RowKit

set_option maxHeartbeats 1600000 in
theorem bytes_walk (A : Option Addr) (n c : Nat) (l : List Ins) (s : ByteArray) (w : World) (hT : Tab w) (hR : RdC w 4 A n c (cellsI l)) (hl : l.length = n) (hn : n ≤ 1048576) (hs : s.size ≤ 1048576) :
    Calls Tryd.prog 9 #[.slice A n c, .string s] w fun e w' => e = .returned (.bool true) ∧ Below w.heap.size w w' := by
  have hT' := hide hT
  have hR' := hide hR
  have HL := hide hl
  have hs4 : s.size ≤ 4194304 := by omega
  clear hT hR hl
  go_enter Tryd.func9, Tryd.ntmps9
  go_wp2_with fail
  refine (shown_any _ hT'.out).mono ?_
  rintro e w1 ⟨rfl, hb⟩
  have hB := hide hb
  clear hb
  go_wp2_with fail
  refine (bytes_any A n c l _ (by exact hT'.out.below hB.out) (by exact hR'.out.below hB.out) HL.out hn).mono ?_
  rintro e w2 ⟨rfl, hb⟩
  have hB := hide (hB.out.trans (hb.mono hB.out.size))
  clear hb
  go_wp2_with fail
  refine (rbytes_any A n c l _ (by exact hR'.out.below hB.out) HL.out hn).mono ?_
  rintro e w3 ⟨rfl, hb⟩
  have hB := hide (hB.out.trans (hb.mono hB.out.size))
  clear hb
  go_wp2_with fail
  refine (back_any s _ (by exact hT'.out.below hB.out) hs4).mono ?_
  rintro e w4 ⟨A4, n4, c4, rfl, hR4, hb⟩
  have hB := hide (hB.out.trans (hb.mono hB.out.size))
  have hR4 := hide hR4
  clear hb
  go_wp2_with fail
  refine (rback_any s _ hs4).mono ?_
  rintro e w5 ⟨A5, n5, c5, rfl, hR5, hb⟩
  have hR4 := hide (hR4.out.below hb)
  have hB := hide (hB.out.trans (hb.mono hB.out.size))
  have hR5 := hide hR5
  clear hb
  go_wp2_with fail
  refine (same_any A4 A5 n4 c4 n5 c5 (backR s) (backR s) _ (by exact hR4.out) (by exact hR5.out) true (by simp)).mono ?_
  rintro e w6 ⟨rfl, hb⟩
  have hB := hide (hB.out.trans (hb.mono hB.out.size))
  clear hb hR4 hR5
  go_wp2
  go_ret
  exact ⟨rfl, hB.out⟩

end Go.Proofs.YtjiamhoabbjkmaaDoor.Isa
