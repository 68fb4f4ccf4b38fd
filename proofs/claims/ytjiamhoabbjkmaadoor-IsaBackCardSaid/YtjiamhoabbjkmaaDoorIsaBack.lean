/-
  The walk of IsaBack: it answers true and leaves what was there. Conditions: the table isa.uses as laid.
-/
import Derived.Test.YtjiamhoabbjkmaaDoorIsaShown
namespace Go.Proofs.YtjiamhoabbjkmaaDoor.Isa
open Go.RowKit

theorem isW_word {op a b imm : Int} (h : mayB op a b imm = true) : isW (wordN op a b imm) = true := by
  have hr := mayB_in h
  unfold isW
  rw [tOp_word hr, tA_word hr, tB_word hr, tI_word hr, h]

theorem take_word (op a b imm : Int) (w : World) (hT : Tab w) (h : mayB op a b imm = true) :
    Calls Tryd.prog 14 #[.int .u32 (wordN op a b imm)] w fun e w' => e = .returned (.tuple #[.agg #[.int .i64 op, .int .i64 a, .int .i64 b, .int .i64 imm], .int .i64 0]) ∧ Below w.heap.size w w' := by
  have hr := mayB_in h
  have := take_ok (wordN op a b imm) w hT (word_range hr).1 (word_range hr).2 (isW_word h)
  rwa [tOp_word hr, tA_word hr, tB_word hr, tI_word hr] at this
theorem take_zero (w : World) (hT : Tab w) :
    Calls Tryd.prog 14 #[.int .u32 0] w fun e w' => e = .returned (.tuple #[.agg #[.int .i64 0, .int .i64 0, .int .i64 0, .int .i64 0], .int .i64 11]) ∧ Below w.heap.size w w' :=
  take_no 0 w hT (by omega) (by omega) (by decide)
theorem word_of_take (x : Int) (w : World) (hT : Tab w) (h0 : 0 ≤ x) (h1 : x < 4294967296) (h : isW x = true) :
    Calls Tryd.prog 12 #[.agg #[.int .i64 (tOp x), .int .i64 (tA x), .int .i64 (tB x), .int .i64 (tI x)]] w fun e w' => e = .returned (.tuple #[.int .u32 x, .int .i64 0]) ∧ Below w.heap.size w w' := by
  have := word_ok (tOp x) (tA x) (tB x) (tI x) w hT h
  rwa [word_of h0 h1] at this
theorem word_zero (w : World) (hT : Tab w) :
    Calls Tryd.prog 12 #[.agg #[.int .i64 0, .int .i64 0, .int .i64 0, .int .i64 0]] w fun e w' => e = .returned (.tuple #[.int .u32 0, .int .i64 1]) ∧ Below w.heap.size w w' :=
  word_no 0 0 0 0 w hT (by decide)

set_option maxHeartbeats 800000 in
theorem back_walk (op a b imm x : Int) (w : World) (hT : Tab w) (h0 : 0 ≤ x) (h1 : x < 4294967296) :
    Calls Tryd.prog 6 #[.agg #[.int .i64 op, .int .i64 a, .int .i64 b, .int .i64 imm], .int .u32 x] w fun e w' => e = .returned (.bool true) ∧ Below w.heap.size w w' := by
  have hT' := Lib.hid hT
  clear hT
  by_cases hB : isW x = true
  all_goals by_cases hA : mayB op a b imm = true
  all_goals
    go_enter Tryd.func6, Tryd.ntmps6
    go_wp2_with fail
    refine (shown_any _ (by exact hT'.out.below (below_new _ _))).mono ?_
    rintro e w1 ⟨rfl, hb1⟩
    obtain ⟨hc1, hf1⟩ := bcell hb1
    have hB1 := hide (below_call hb1)
    have hs1 := hb1.size
    simp only [World.size_alloc] at hs1
    have s1 : w.heap.size < w1.heap.size := by omega
    go_wp2_with fail
  · refine (word_ok op a b imm _ (by exact hT'.out.below hB1.out) hA).mono ?_
    rintro e w2 ⟨rfl, hb2⟩
    obtain ⟨hc2, hf2⟩ := bcell hb2
    have hs2 := hb2.size
    have s2 : w.heap.size < w2.heap.size := by omega
    have hB2 := hide (hB1.out.trans (hb2.mono (Nat.le_of_lt s1)))
    go_wp2_with fail
    refine (take_word op a b imm _ (by exact hT'.out.below hB2.out) hA).mono ?_
    rintro e w3 ⟨rfl, hb3⟩
    obtain ⟨hc3, hf3⟩ := bcell hb3
    have hs3 := hb3.size
    have s3 : w.heap.size < w3.heap.size := by omega
    have hB3 := hide ((hB2.out.trans (hb3.mono (Nat.le_of_lt s2))).alloc (Nat.le_of_lt s3) (.cells #[.int .i64 op, .int .i64 a, .int .i64 b, .int .i64 imm] 23))
    go_wp2_with fail
    refine (take_ok x _ (by exact hT'.out.below hB3.out) h0 h1 hB).mono ?_
    rintro e w4 ⟨rfl, hb4⟩
    have hs4 := hb4.size
    simp only [World.size_alloc] at hs4
    have s4 : w.heap.size < w4.heap.size := by omega
    have hB4 := hide ((hB3.out.trans (hb4.mono (by simp; omega))).alloc (Nat.le_of_lt s4) (.cells #[.int .i64 (tOp x), .int .i64 (tA x), .int .i64 (tB x), .int .i64 (tI x)] 23))
    go_wp2_with fail
    refine (word_of_take x _ (by exact hT'.out.below hB4.out) h0 h1 hB).mono ?_
    rintro e w5 ⟨rfl, hb5⟩
    have hB5 := hide (hB4.out.trans (hb5.mono (by simp; omega)))
    go_wp2
    go_ret
    exact ⟨rfl, hB5.out⟩
  · refine (word_no op a b imm _ (by exact hT'.out.below hB1.out) (by simpa using hA)).mono ?_
    rintro e w2 ⟨rfl, hb2⟩
    obtain ⟨hc2, hf2⟩ := bcell hb2
    have hs2 := hb2.size
    have s2 : w.heap.size < w2.heap.size := by omega
    have hB2 := hide (hB1.out.trans (hb2.mono (Nat.le_of_lt s1)))
    go_wp2_with fail
    refine (take_zero _ (by exact hT'.out.below hB2.out)).mono ?_
    rintro e w3 ⟨rfl, hb3⟩
    obtain ⟨hc3, hf3⟩ := bcell hb3
    have hs3 := hb3.size
    have s3 : w.heap.size < w3.heap.size := by omega
    have hB3 := hide ((hB2.out.trans (hb3.mono (Nat.le_of_lt s2))).alloc (Nat.le_of_lt s3) (.cells #[.int .i64 0, .int .i64 0, .int .i64 0, .int .i64 0] 23))
    go_wp2_with fail
    refine (take_ok x _ (by exact hT'.out.below hB3.out) h0 h1 hB).mono ?_
    rintro e w4 ⟨rfl, hb4⟩
    have hs4 := hb4.size
    simp only [World.size_alloc] at hs4
    have s4 : w.heap.size < w4.heap.size := by omega
    have hB4 := hide ((hB3.out.trans (hb4.mono (by simp; omega))).alloc (Nat.le_of_lt s4) (.cells #[.int .i64 (tOp x), .int .i64 (tA x), .int .i64 (tB x), .int .i64 (tI x)] 23))
    go_wp2_with fail
    refine (word_of_take x _ (by exact hT'.out.below hB4.out) h0 h1 hB).mono ?_
    rintro e w5 ⟨rfl, hb5⟩
    have hB5 := hide (hB4.out.trans (hb5.mono (by simp; omega)))
    go_wp2
    go_ret
    exact ⟨rfl, hB5.out⟩
  · refine (word_ok op a b imm _ (by exact hT'.out.below hB1.out) hA).mono ?_
    rintro e w2 ⟨rfl, hb2⟩
    obtain ⟨hc2, hf2⟩ := bcell hb2
    have hs2 := hb2.size
    have s2 : w.heap.size < w2.heap.size := by omega
    have hB2 := hide (hB1.out.trans (hb2.mono (Nat.le_of_lt s1)))
    go_wp2_with fail
    refine (take_word op a b imm _ (by exact hT'.out.below hB2.out) hA).mono ?_
    rintro e w3 ⟨rfl, hb3⟩
    obtain ⟨hc3, hf3⟩ := bcell hb3
    have hs3 := hb3.size
    have s3 : w.heap.size < w3.heap.size := by omega
    have hB3 := hide ((hB2.out.trans (hb3.mono (Nat.le_of_lt s2))).alloc (Nat.le_of_lt s3) (.cells #[.int .i64 op, .int .i64 a, .int .i64 b, .int .i64 imm] 23))
    go_wp2_with fail
    refine (take_no x _ (by exact hT'.out.below hB3.out) h0 h1 (by simpa using hB)).mono ?_
    rintro e w4 ⟨rfl, hb4⟩
    have hs4 := hb4.size
    simp only [World.size_alloc] at hs4
    have s4 : w.heap.size < w4.heap.size := by omega
    have hB4 := hide ((hB3.out.trans (hb4.mono (by simp; omega))).alloc (Nat.le_of_lt s4) (.cells #[.int .i64 0, .int .i64 0, .int .i64 0, .int .i64 0] 23))
    go_wp2_with fail
    refine (word_zero _ (by exact hT'.out.below hB4.out)).mono ?_
    rintro e w5 ⟨rfl, hb5⟩
    have hB5 := hide (hB4.out.trans (hb5.mono (by simp; omega)))
    go_wp2
    go_ret
    exact ⟨rfl, hB5.out⟩
  · refine (word_no op a b imm _ (by exact hT'.out.below hB1.out) (by simpa using hA)).mono ?_
    rintro e w2 ⟨rfl, hb2⟩
    obtain ⟨hc2, hf2⟩ := bcell hb2
    have hs2 := hb2.size
    have s2 : w.heap.size < w2.heap.size := by omega
    have hB2 := hide (hB1.out.trans (hb2.mono (Nat.le_of_lt s1)))
    go_wp2_with fail
    refine (take_zero _ (by exact hT'.out.below hB2.out)).mono ?_
    rintro e w3 ⟨rfl, hb3⟩
    obtain ⟨hc3, hf3⟩ := bcell hb3
    have hs3 := hb3.size
    have s3 : w.heap.size < w3.heap.size := by omega
    have hB3 := hide ((hB2.out.trans (hb3.mono (Nat.le_of_lt s2))).alloc (Nat.le_of_lt s3) (.cells #[.int .i64 0, .int .i64 0, .int .i64 0, .int .i64 0] 23))
    go_wp2_with fail
    refine (take_no x _ (by exact hT'.out.below hB3.out) h0 h1 (by simpa using hB)).mono ?_
    rintro e w4 ⟨rfl, hb4⟩
    have hs4 := hb4.size
    simp only [World.size_alloc] at hs4
    have s4 : w.heap.size < w4.heap.size := by omega
    have hB4 := hide ((hB3.out.trans (hb4.mono (by simp; omega))).alloc (Nat.le_of_lt s4) (.cells #[.int .i64 0, .int .i64 0, .int .i64 0, .int .i64 0] 23))
    go_wp2_with fail
    refine (word_zero _ (by exact hT'.out.below hB4.out)).mono ?_
    rintro e w5 ⟨rfl, hb5⟩
    have hB5 := hide (hB4.out.trans (hb5.mono (by simp; omega)))
    go_wp2
    go_ret
    exact ⟨rfl, hB5.out⟩

end Go.Proofs.YtjiamhoabbjkmaaDoor.Isa
