/-
  The walks of IsaFields, IsaRegs and IsaBack: each answers true and leaves what was there. Conditions: the table isa.uses as laid.
-/
import Derived.Test.YtjiamhoabbjkmaaDoorIsaShown
namespace Go.Proofs.YtjiamhoabbjkmaaDoor.Isa
open Go.RowKit

set_option maxHeartbeats 400000 in
theorem fields_walk (op a b imm : Int) (w : World) (hT : Tab w) :
    Calls Tryd.prog 4 #[.agg #[.int .i64 op, .int .i64 a, .int .i64 b, .int .i64 imm]] w fun e w' => e = .returned (.bool true) ∧ Below w.heap.size w w' := by
  have hT' := Lib.hid hT
  clear hT
  by_cases hA : mayB op a b imm = true
  · have hr := mayB_in hA
    have hW := word_range hr
    obtain ⟨hW0, hW1⟩ := hW
    have e1 : wordN op a b imm / 16777216 = op := tOp_word hr
    have e2 : wordN op a b imm / 1048576 % 16 = a := tA_word hr
    have e3 : wordN op a b imm / 65536 % 16 = b := tB_word hr
    have e4 : wordN op a b imm % 65536 = imm % 65536 := by unfold wordN; omega
    have hR : -32768 ≤ imm ∧ imm ≤ 32767 := ⟨hr.2.2.2.2.2.2.1, hr.2.2.2.2.2.2.2⟩
    obtain ⟨r1, r2⟩ := hR
    have hA' := hide hA
    have hr' := hide hr
    clear hA hr
    by_cases hn : imm < 0
    · have e5 : imm % 65536 = imm + 65536 := by omega
      go_enter Tryd.func4, Tryd.ntmps4
      go_wp2_with fail
      refine (shown_any _ (by exact hT'.out.below (below_new _ _))).mono ?_
      rintro e w1 ⟨rfl, hb1⟩
      obtain ⟨hc1, hf1⟩ := bcell hb1
      have hB1 := hide (below_call hb1)
      go_wp2_with fail
      refine (word_ok op a b imm _ (by exact hT'.out.below hB1.out) hA'.out).mono ?_
      rintro e w2 ⟨rfl, hb2⟩
      obtain ⟨hc2, hf2⟩ := bcell hb2
      have hs1 := hb1.size
      simp only [World.size_alloc] at hs1
      have s1 : w.heap.size < w1.heap.size := by omega
      have hB2 := hide (hB1.out.trans (hb2.mono (Nat.le_of_lt s1)))
      go_wp2
      go_ret
      exact ⟨rfl, hB2.out⟩
    · have e5 : imm % 65536 = imm := by omega
      go_enter Tryd.func4, Tryd.ntmps4
      go_wp2_with fail
      refine (shown_any _ (by exact hT'.out.below (below_new _ _))).mono ?_
      rintro e w1 ⟨rfl, hb1⟩
      obtain ⟨hc1, hf1⟩ := bcell hb1
      have hB1 := hide (below_call hb1)
      go_wp2_with fail
      refine (word_ok op a b imm _ (by exact hT'.out.below hB1.out) hA'.out).mono ?_
      rintro e w2 ⟨rfl, hb2⟩
      obtain ⟨hc2, hf2⟩ := bcell hb2
      have hs1 := hb1.size
      simp only [World.size_alloc] at hs1
      have s1 : w.heap.size < w1.heap.size := by omega
      have hB2 := hide (hB1.out.trans (hb2.mono (Nat.le_of_lt s1)))
      go_wp2
      go_ret
      exact ⟨rfl, hB2.out⟩
  · have hA1 : mayB op a b imm = false := by simpa using hA
    clear hA
    go_enter Tryd.func4, Tryd.ntmps4
    go_wp2_with fail
    refine (shown_any _ (by exact hT'.out.below (below_new _ _))).mono ?_
    rintro e w1 ⟨rfl, hb1⟩
    obtain ⟨hc1, hf1⟩ := bcell hb1
    have hB1 := hide (below_call hb1)
    have hs1 := hb1.size
    simp only [World.size_alloc] at hs1
    go_wp2_with fail
    refine (word_no op a b imm _ (by exact hT'.out.below hB1.out) hA1).mono ?_
    rintro e w2 ⟨rfl, hb2⟩
    have hB2 := hide (hB1.out.trans (hb2.mono (by omega)))
    go_wp2
    go_ret
    exact ⟨rfl, hB2.out⟩

set_option maxHeartbeats 400000 in
theorem regs_walk (x : Int) (w : World) (hT : Tab w) (h0 : 0 ≤ x) (h1 : x < 4294967296) :
    Calls Tryd.prog 7 #[.int .u32 x] w fun e w' => e = .returned (.bool true) ∧ Below w.heap.size w w' := by
  have hT' := Lib.hid hT
  clear hT
  by_cases hA : isW x = true
  · have hr := mayB_in hA
    have q1 : 1 ≤ x / 16777216 := hr.1
    have q2 : x / 16777216 ≤ 24 := hr.2.1
    have q3 : x / 1048576 % 16 ≤ 7 := hr.2.2.2.1
    have q4 : x / 65536 % 16 ≤ 7 := hr.2.2.2.2.2.1
    have hA' := hide hA
    clear hA hr
    go_enter Tryd.func7, Tryd.ntmps7
    go_wp2_with fail
    refine (shown_any _ (by exact hT'.out)).mono ?_
    rintro e w1 ⟨rfl, hb1⟩
    have hB1 := hide hb1
    go_wp2_with fail
    refine (take_ok x _ (by exact hT'.out.below hB1.out) h0 h1 hA'.out).mono ?_
    rintro e w2 ⟨rfl, hb2⟩
    have hB2 := hide (hB1.out.trans (hb2.mono hb1.size))
    have hs := hide (Nat.le_trans hb1.size hb2.size)
    go_wp2
    go_ret
    exact ⟨rfl, hB2.out.alloc hs.out _⟩
  · have hA1 : isW x = false := by simpa using hA
    clear hA
    go_enter Tryd.func7, Tryd.ntmps7
    go_wp2_with fail
    refine (shown_any _ (by exact hT'.out)).mono ?_
    rintro e w1 ⟨rfl, hb1⟩
    have hB1 := hide hb1
    go_wp2_with fail
    refine (take_no x _ (by exact hT'.out.below hB1.out) h0 h1 hA1).mono ?_
    rintro e w2 ⟨rfl, hb2⟩
    have hB2 := hide (hB1.out.trans (hb2.mono hb1.size))
    have hs := hide (Nat.le_trans hb1.size hb2.size)
    go_wp2
    all_goals go_ret
    all_goals exact ⟨rfl, hB2.out.alloc hs.out _⟩

end Go.Proofs.YtjiamhoabbjkmaaDoor.Isa
