/-
  The walk of IsaWords: it answers true and leaves what was there. Conditions: the table isa.uses as laid.
-/
import Derived.Test.YtjiamhoabbjkmaaDoorIsaShown
import Derived.Test.YtjiamhoabbjkmaaDoorIsaRefW
import Derived.Deep.RegionHeld3
namespace Go.Proofs.YtjiamhoabbjkmaaDoor.Isa
open Go.RowKit

/-- what the last statement's operations read, and what the calls between them keep -/
def KW (w0 : World) (g1 g2 g3 : Nat) (a0 a1 a2 a3 b0 b1 b2 b3 : Value) (w : World) : Prop :=
  w.cell? ⟨g1, 0, none⟩ = some a0 ∧ w.cell? ⟨g1, 1, none⟩ = some a1 ∧ w.cell? ⟨g1, 2, none⟩ = some a2 ∧ w.cell? ⟨g1, 3, none⟩ = some a3 ∧
  w.cell? ⟨g2, 0, none⟩ = some b0 ∧ w.cell? ⟨g2, 1, none⟩ = some b1 ∧ w.cell? ⟨g2, 2, none⟩ = some b2 ∧ w.cell? ⟨g2, 3, none⟩ = some b3 ∧
  w.cell? ⟨g3, 0, none⟩ = some b0 ∧ w.cell? ⟨g3, 1, none⟩ = some b1 ∧ w.cell? ⟨g3, 2, none⟩ = some b2 ∧ w.cell? ⟨g3, 3, none⟩ = some b3 ∧
  Hid (Tab w) ∧ Hid (Below w0.heap.size w0 w) ∧ Hid (w0.heap.size ≤ w.heap.size)
theorem KW.keep {w0 : World} {g1 g2 g3 : Nat} {a0 a1 a2 a3 b0 b1 b2 b3 : Value} {w w' : World} (h : KW w0 g1 g2 g3 a0 a1 a2 a3 b0 b1 b2 b3 w) (hb : Below w.heap.size w w') : KW w0 g1 g2 g3 a0 a1 a2 a3 b0 b1 b2 b3 w' := by
  have step : ∀ {a : Addr} {v : Value}, w.cell? a = some v → w'.cell? a = some v := fun h => (hb.cell (World.block_lt_of_cell? _ _ h)).trans h
  obtain ⟨h1, h2, h3, h4, h5, h6, h7, h8, h9, h10, h11, h12, hT, hB, hs⟩ := h
  exact ⟨step h1, step h2, step h3, step h4, step h5, step h6, step h7, step h8, step h9, step h10, step h11, step h12, hT.out.below hb, hB.out.trans (hb.mono hs.out), Nat.le_trans hs.out hb.size⟩

theorem KW.tab {w0 : World} {g1 g2 g3 : Nat} {a0 a1 a2 a3 b0 b1 b2 b3 : Value} {w : World} (h : KW w0 g1 g2 g3 a0 a1 a2 a3 b0 b1 b2 b3 w) : Tab w := h.2.2.2.2.2.2.2.2.2.2.2.2.1
theorem KW.end_ {w0 : World} {g1 g2 g3 : Nat} {a0 a1 a2 a3 b0 b1 b2 b3 : Value} {w : World} (h : KW w0 g1 g2 g3 a0 a1 a2 a3 b0 b1 b2 b3 w) : Below w0.heap.size w0 w := h.2.2.2.2.2.2.2.2.2.2.2.2.2.1

set_option maxHeartbeats 800000 in
theorem words_walk (op a b imm x : Int) (w : World) (hT : Tab w) (h0 : 0 ≤ x) (h1 : x < 4294967296) :
    Calls Tryd.prog 5 #[.agg #[.int .i64 op, .int .i64 a, .int .i64 b, .int .i64 imm], .int .u32 x] w fun e w' => e = .returned (.bool true) ∧ Below w.heap.size w w' := by
  have hT' := Lib.hid hT
  clear hT
  by_cases hB : isW x = true
  all_goals by_cases hA : mayB op a b imm = true
  all_goals
    go_enter Tryd.func5, Tryd.ntmps5
    go_wp2_with fail
    refine (shown_any _ (by exact hT'.out.below (below_new _ _))).mono ?_
    rintro e w1 ⟨rfl, hb1⟩
    obtain ⟨hc1, hf1⟩ := bcell hb1
    have hB1 := hide (below_call hb1)
    have hs1 := hb1.size
    simp only [World.size_alloc] at hs1
    have s1 : w.heap.size < w1.heap.size := by omega
    go_wp2_with fail
  · refine (word_ok op a b imm _ (by exact hT'.out.below hB1.out) hA).mono ?_
    rintro e w2 ⟨rfl, hb2⟩
    obtain ⟨hc2, hf2⟩ := bcell hb2
    have hs2 := hb2.size
    have s2 : w.heap.size < w2.heap.size := by omega
    have hB2 := hide (hB1.out.trans (hb2.mono (Nat.le_of_lt s1)))
    go_wp2_with fail
    refine (rword_ok op a b imm _ hA).mono ?_
    rintro e w3 ⟨rfl, hb3⟩
    obtain ⟨hc3, hf3⟩ := bcell hb3
    have hs3 := hb3.size
    have s3 : w.heap.size < w3.heap.size := by omega
    have hB3 := hide (hB2.out.trans (hb3.mono (Nat.le_of_lt s2)))
    go_wp2_with fail
    refine (take_ok x _ (by exact hT'.out.below hB3.out) h0 h1 hB).mono ?_
    rintro e w4 ⟨rfl, hb4⟩
    obtain ⟨hc4, hf4⟩ := bcell hb4
    have hs4 := hb4.size
    have s4 : w.heap.size < w4.heap.size := by omega
    have hB4 := hide ((hB3.out.trans (hb4.mono (Nat.le_of_lt s3))).alloc (Nat.le_of_lt s4) (.cells #[.int .i64 (tOp x), .int .i64 (tA x), .int .i64 (tB x), .int .i64 (tI x)] 23))
    go_wp2_with fail
    refine (rtake_ok x _ h0 h1 hB).mono ?_
    rintro e w5 ⟨rfl, hb5⟩
    obtain ⟨hc5, hf5⟩ := bcell hb5
    have hs5 := hb5.size
    simp only [World.size_alloc] at hs5
    have s5 : w.heap.size < w5.heap.size := by omega
    have s54 : w4.heap.size < w5.heap.size := by omega
    have hB5 := hide ((hB4.out.trans (hb5.mono (by simp; omega))).alloc (Nat.le_of_lt s5) (.cells #[.int .i64 (tOp x), .int .i64 (tA x), .int .i64 (tB x), .int .i64 (tI x)] 23))
    go_wp2_with fail
    have hS : KW w w.heap.size w4.heap.size w5.heap.size (.int .i64 op) (.int .i64 a) (.int .i64 b) (.int .i64 imm) (.int .i64 (tOp x)) (.int .i64 (tA x)) (.int .i64 (tB x)) (.int .i64 (tI x)) (w5.alloc (.cells #[.int .i64 (tOp x), .int .i64 (tA x), .int .i64 (tB x), .int .i64 (tI x)] 23)).drew := by
      refine ⟨?_, ?_, ?_, ?_, ?_, ?_, ?_, ?_, ?_, ?_, ?_, ?_, hT'.out.below hB5.out.drew, hB5.out.drew, by show _ ≤ (w5.alloc _).heap.size; simp; omega⟩
      all_goals go_simp
    generalize (w5.alloc (.cells #[.int .i64 (tOp x), .int .i64 (tA x), .int .i64 (tB x), .int .i64 (tI x)] 23)) = W at hS ⊢
    have hA' := hide hA
    clear hA hB hb1 hb2 hb3 hb4 hb5 hc1 hc2 hc3 hc4 hc5 hf1 hf2 hf3 hf4 hf5 hs1 hs2 hs3 hs4 hs5 s1 s2 s3 s4 s5 s54 hB1 hB2 hB3 hB4 hB5
    generalize w4.heap.size = g2 at hS ⊢
    generalize w5.heap.size = g3 at hS ⊢
    have hTab := hide (fun (w' : World) (h : KW w w.heap.size g2 g3 (.int .i64 op) (.int .i64 a) (.int .i64 b) (.int .i64 imm) (.int .i64 (tOp x)) (.int .i64 (tA x)) (.int .i64 (tB x)) (.int .i64 (tI x)) w') => h.tab)
    have hEnd := hide (fun (w' : World) (h : KW w w.heap.size g2 g3 (.int .i64 op) (.int .i64 a) (.int .i64 b) (.int .i64 imm) (.int .i64 (tOp x)) (.int .i64 (tA x)) (.int .i64 (tB x)) (.int .i64 (tI x)) w') => h.end_)
    go_region_held3 (fun w' => w'.cell? ⟨w.heap.size, 0, none⟩ = some (.int .i64 op) ∧ w'.cell? ⟨w.heap.size, 1, none⟩ = some (.int .i64 a) ∧ w'.cell? ⟨w.heap.size, 2, none⟩ = some (.int .i64 b) ∧ w'.cell? ⟨w.heap.size, 3, none⟩ = some (.int .i64 imm) ∧ w'.cell? ⟨g2, 0, none⟩ = some (.int .i64 (tOp x)) ∧ w'.cell? ⟨g2, 1, none⟩ = some (.int .i64 (tA x)) ∧ w'.cell? ⟨g2, 2, none⟩ = some (.int .i64 (tB x)) ∧ w'.cell? ⟨g2, 3, none⟩ = some (.int .i64 (tI x)) ∧ w'.cell? ⟨g3, 0, none⟩ = some (.int .i64 (tOp x)) ∧ w'.cell? ⟨g3, 1, none⟩ = some (.int .i64 (tA x)) ∧ w'.cell? ⟨g3, 2, none⟩ = some (.int .i64 (tB x)) ∧ w'.cell? ⟨g3, 3, none⟩ = some (.int .i64 (tI x)) ∧ Hid (Tab w') ∧ Hid (Below w.heap.size w w') ∧ Hid (w.heap.size ≤ w'.heap.size))
      (first | exact hS | exact KW.keep (by assumption) (by assumption))
      (first
        | (go_at_call 16; refine (may_true (hTab.out _ (by assumption)) hA'.out).mono ?_; rintro e wx ⟨rfl, hb⟩)
        | (go_at_call 17; refine (rmay_true hA'.out).mono ?_; rintro e wx ⟨rfl, hb⟩))
    all_goals go_wp2
    all_goals go_ret
    all_goals exact ⟨rfl, hEnd.out _ (by assumption)⟩
  · refine (word_no op a b imm _ (by exact hT'.out.below hB1.out) (by simpa using hA)).mono ?_
    rintro e w2 ⟨rfl, hb2⟩
    obtain ⟨hc2, hf2⟩ := bcell hb2
    have hs2 := hb2.size
    have s2 : w.heap.size < w2.heap.size := by omega
    have hB2 := hide (hB1.out.trans (hb2.mono (Nat.le_of_lt s1)))
    go_wp2_with fail
    refine (rword_no op a b imm _ (by simpa using hA)).mono ?_
    rintro e w3 ⟨rfl, hb3⟩
    obtain ⟨hc3, hf3⟩ := bcell hb3
    have hs3 := hb3.size
    have s3 : w.heap.size < w3.heap.size := by omega
    have hB3 := hide (hB2.out.trans (hb3.mono (Nat.le_of_lt s2)))
    go_wp2_with fail
    refine (take_ok x _ (by exact hT'.out.below hB3.out) h0 h1 hB).mono ?_
    rintro e w4 ⟨rfl, hb4⟩
    obtain ⟨hc4, hf4⟩ := bcell hb4
    have hs4 := hb4.size
    have s4 : w.heap.size < w4.heap.size := by omega
    have hB4 := hide ((hB3.out.trans (hb4.mono (Nat.le_of_lt s3))).alloc (Nat.le_of_lt s4) (.cells #[.int .i64 (tOp x), .int .i64 (tA x), .int .i64 (tB x), .int .i64 (tI x)] 23))
    go_wp2_with fail
    refine (rtake_ok x _ h0 h1 hB).mono ?_
    rintro e w5 ⟨rfl, hb5⟩
    obtain ⟨hc5, hf5⟩ := bcell hb5
    have hs5 := hb5.size
    simp only [World.size_alloc] at hs5
    have s5 : w.heap.size < w5.heap.size := by omega
    have s54 : w4.heap.size < w5.heap.size := by omega
    have hB5 := hide ((hB4.out.trans (hb5.mono (by simp; omega))).alloc (Nat.le_of_lt s5) (.cells #[.int .i64 (tOp x), .int .i64 (tA x), .int .i64 (tB x), .int .i64 (tI x)] 23))
    go_wp2_with fail
    have hS : KW w w.heap.size w4.heap.size w5.heap.size (.int .i64 op) (.int .i64 a) (.int .i64 b) (.int .i64 imm) (.int .i64 (tOp x)) (.int .i64 (tA x)) (.int .i64 (tB x)) (.int .i64 (tI x)) (w5.alloc (.cells #[.int .i64 (tOp x), .int .i64 (tA x), .int .i64 (tB x), .int .i64 (tI x)] 23)).drew := by
      refine ⟨?_, ?_, ?_, ?_, ?_, ?_, ?_, ?_, ?_, ?_, ?_, ?_, hT'.out.below hB5.out.drew, hB5.out.drew, by show _ ≤ (w5.alloc _).heap.size; simp; omega⟩
      all_goals go_simp
    generalize (w5.alloc (.cells #[.int .i64 (tOp x), .int .i64 (tA x), .int .i64 (tB x), .int .i64 (tI x)] 23)) = W at hS ⊢
    have hA' := hide (show mayB op a b imm = false by simpa using hA)
    clear hA hB hb1 hb2 hb3 hb4 hb5 hc1 hc2 hc3 hc4 hc5 hf1 hf2 hf3 hf4 hf5 hs1 hs2 hs3 hs4 hs5 s1 s2 s3 s4 s5 s54 hB1 hB2 hB3 hB4 hB5
    generalize w4.heap.size = g2 at hS ⊢
    generalize w5.heap.size = g3 at hS ⊢
    have hTab := hide (fun (w' : World) (h : KW w w.heap.size g2 g3 (.int .i64 op) (.int .i64 a) (.int .i64 b) (.int .i64 imm) (.int .i64 (tOp x)) (.int .i64 (tA x)) (.int .i64 (tB x)) (.int .i64 (tI x)) w') => h.tab)
    have hEnd := hide (fun (w' : World) (h : KW w w.heap.size g2 g3 (.int .i64 op) (.int .i64 a) (.int .i64 b) (.int .i64 imm) (.int .i64 (tOp x)) (.int .i64 (tA x)) (.int .i64 (tB x)) (.int .i64 (tI x)) w') => h.end_)
    go_region_held3 (fun w' => w'.cell? ⟨w.heap.size, 0, none⟩ = some (.int .i64 op) ∧ w'.cell? ⟨w.heap.size, 1, none⟩ = some (.int .i64 a) ∧ w'.cell? ⟨w.heap.size, 2, none⟩ = some (.int .i64 b) ∧ w'.cell? ⟨w.heap.size, 3, none⟩ = some (.int .i64 imm) ∧ w'.cell? ⟨g2, 0, none⟩ = some (.int .i64 (tOp x)) ∧ w'.cell? ⟨g2, 1, none⟩ = some (.int .i64 (tA x)) ∧ w'.cell? ⟨g2, 2, none⟩ = some (.int .i64 (tB x)) ∧ w'.cell? ⟨g2, 3, none⟩ = some (.int .i64 (tI x)) ∧ w'.cell? ⟨g3, 0, none⟩ = some (.int .i64 (tOp x)) ∧ w'.cell? ⟨g3, 1, none⟩ = some (.int .i64 (tA x)) ∧ w'.cell? ⟨g3, 2, none⟩ = some (.int .i64 (tB x)) ∧ w'.cell? ⟨g3, 3, none⟩ = some (.int .i64 (tI x)) ∧ Hid (Tab w') ∧ Hid (Below w.heap.size w w') ∧ Hid (w.heap.size ≤ w'.heap.size))
      (first | exact hS | exact KW.keep (by assumption) (by assumption))
      (first
        | (go_at_call 16; refine (may_false (hTab.out _ (by assumption)) hA'.out).mono ?_; rintro e wx ⟨rfl, hb⟩)
        | (go_at_call 17; refine (rmay_false hA'.out).mono ?_; rintro e wx ⟨rfl, hb⟩))
    all_goals go_wp2
    all_goals go_ret
    all_goals exact ⟨rfl, hEnd.out _ (by assumption)⟩
  · refine (word_ok op a b imm _ (by exact hT'.out.below hB1.out) hA).mono ?_
    rintro e w2 ⟨rfl, hb2⟩
    obtain ⟨hc2, hf2⟩ := bcell hb2
    have hs2 := hb2.size
    have s2 : w.heap.size < w2.heap.size := by omega
    have hB2 := hide (hB1.out.trans (hb2.mono (Nat.le_of_lt s1)))
    go_wp2_with fail
    refine (rword_ok op a b imm _ hA).mono ?_
    rintro e w3 ⟨rfl, hb3⟩
    obtain ⟨hc3, hf3⟩ := bcell hb3
    have hs3 := hb3.size
    have s3 : w.heap.size < w3.heap.size := by omega
    have hB3 := hide (hB2.out.trans (hb3.mono (Nat.le_of_lt s2)))
    go_wp2_with fail
    refine (take_no x _ (by exact hT'.out.below hB3.out) h0 h1 (by simpa using hB)).mono ?_
    rintro e w4 ⟨rfl, hb4⟩
    obtain ⟨hc4, hf4⟩ := bcell hb4
    have hs4 := hb4.size
    have s4 : w.heap.size < w4.heap.size := by omega
    have hB4 := hide ((hB3.out.trans (hb4.mono (Nat.le_of_lt s3))).alloc (Nat.le_of_lt s4) (.cells #[.int .i64 0, .int .i64 0, .int .i64 0, .int .i64 0] 23))
    go_wp2_with fail
    refine (rtake_no x _ h0 h1 (by simpa using hB)).mono ?_
    rintro e w5 ⟨rfl, hb5⟩
    obtain ⟨hc5, hf5⟩ := bcell hb5
    have hs5 := hb5.size
    simp only [World.size_alloc] at hs5
    have s5 : w.heap.size < w5.heap.size := by omega
    have s54 : w4.heap.size < w5.heap.size := by omega
    have hB5 := hide ((hB4.out.trans (hb5.mono (by simp; omega))).alloc (Nat.le_of_lt s5) (.cells #[.int .i64 0, .int .i64 0, .int .i64 0, .int .i64 0] 23))
    go_wp2_with fail
    have hS : KW w w.heap.size w4.heap.size w5.heap.size (.int .i64 op) (.int .i64 a) (.int .i64 b) (.int .i64 imm) (.int .i64 0) (.int .i64 0) (.int .i64 0) (.int .i64 0) (w5.alloc (.cells #[.int .i64 0, .int .i64 0, .int .i64 0, .int .i64 0] 23)).drew := by
      refine ⟨?_, ?_, ?_, ?_, ?_, ?_, ?_, ?_, ?_, ?_, ?_, ?_, hT'.out.below hB5.out.drew, hB5.out.drew, by show _ ≤ (w5.alloc _).heap.size; simp; omega⟩
      all_goals go_simp
    generalize (w5.alloc (.cells #[.int .i64 0, .int .i64 0, .int .i64 0, .int .i64 0] 23)) = W at hS ⊢
    have hA' := hide hA
    clear hA hB hb1 hb2 hb3 hb4 hb5 hc1 hc2 hc3 hc4 hc5 hf1 hf2 hf3 hf4 hf5 hs1 hs2 hs3 hs4 hs5 s1 s2 s3 s4 s5 s54 hB1 hB2 hB3 hB4 hB5
    generalize w4.heap.size = g2 at hS ⊢
    generalize w5.heap.size = g3 at hS ⊢
    have hTab := hide (fun (w' : World) (h : KW w w.heap.size g2 g3 (.int .i64 op) (.int .i64 a) (.int .i64 b) (.int .i64 imm) (.int .i64 0) (.int .i64 0) (.int .i64 0) (.int .i64 0) w') => h.tab)
    have hEnd := hide (fun (w' : World) (h : KW w w.heap.size g2 g3 (.int .i64 op) (.int .i64 a) (.int .i64 b) (.int .i64 imm) (.int .i64 0) (.int .i64 0) (.int .i64 0) (.int .i64 0) w') => h.end_)
    go_region_held3 (fun w' => w'.cell? ⟨w.heap.size, 0, none⟩ = some (.int .i64 op) ∧ w'.cell? ⟨w.heap.size, 1, none⟩ = some (.int .i64 a) ∧ w'.cell? ⟨w.heap.size, 2, none⟩ = some (.int .i64 b) ∧ w'.cell? ⟨w.heap.size, 3, none⟩ = some (.int .i64 imm) ∧ w'.cell? ⟨g2, 0, none⟩ = some (.int .i64 0) ∧ w'.cell? ⟨g2, 1, none⟩ = some (.int .i64 0) ∧ w'.cell? ⟨g2, 2, none⟩ = some (.int .i64 0) ∧ w'.cell? ⟨g2, 3, none⟩ = some (.int .i64 0) ∧ w'.cell? ⟨g3, 0, none⟩ = some (.int .i64 0) ∧ w'.cell? ⟨g3, 1, none⟩ = some (.int .i64 0) ∧ w'.cell? ⟨g3, 2, none⟩ = some (.int .i64 0) ∧ w'.cell? ⟨g3, 3, none⟩ = some (.int .i64 0) ∧ Hid (Tab w') ∧ Hid (Below w.heap.size w w') ∧ Hid (w.heap.size ≤ w'.heap.size))
      (first | exact hS | exact KW.keep (by assumption) (by assumption))
      (first
        | (go_at_call 16; refine (may_true (hTab.out _ (by assumption)) hA'.out).mono ?_; rintro e wx ⟨rfl, hb⟩)
        | (go_at_call 17; refine (rmay_true hA'.out).mono ?_; rintro e wx ⟨rfl, hb⟩))
    all_goals go_wp2
    all_goals go_ret
    all_goals exact ⟨rfl, hEnd.out _ (by assumption)⟩
  · refine (word_no op a b imm _ (by exact hT'.out.below hB1.out) (by simpa using hA)).mono ?_
    rintro e w2 ⟨rfl, hb2⟩
    obtain ⟨hc2, hf2⟩ := bcell hb2
    have hs2 := hb2.size
    have s2 : w.heap.size < w2.heap.size := by omega
    have hB2 := hide (hB1.out.trans (hb2.mono (Nat.le_of_lt s1)))
    go_wp2_with fail
    refine (rword_no op a b imm _ (by simpa using hA)).mono ?_
    rintro e w3 ⟨rfl, hb3⟩
    obtain ⟨hc3, hf3⟩ := bcell hb3
    have hs3 := hb3.size
    have s3 : w.heap.size < w3.heap.size := by omega
    have hB3 := hide (hB2.out.trans (hb3.mono (Nat.le_of_lt s2)))
    go_wp2_with fail
    refine (take_no x _ (by exact hT'.out.below hB3.out) h0 h1 (by simpa using hB)).mono ?_
    rintro e w4 ⟨rfl, hb4⟩
    obtain ⟨hc4, hf4⟩ := bcell hb4
    have hs4 := hb4.size
    have s4 : w.heap.size < w4.heap.size := by omega
    have hB4 := hide ((hB3.out.trans (hb4.mono (Nat.le_of_lt s3))).alloc (Nat.le_of_lt s4) (.cells #[.int .i64 0, .int .i64 0, .int .i64 0, .int .i64 0] 23))
    go_wp2_with fail
    refine (rtake_no x _ h0 h1 (by simpa using hB)).mono ?_
    rintro e w5 ⟨rfl, hb5⟩
    obtain ⟨hc5, hf5⟩ := bcell hb5
    have hs5 := hb5.size
    simp only [World.size_alloc] at hs5
    have s5 : w.heap.size < w5.heap.size := by omega
    have s54 : w4.heap.size < w5.heap.size := by omega
    have hB5 := hide ((hB4.out.trans (hb5.mono (by simp; omega))).alloc (Nat.le_of_lt s5) (.cells #[.int .i64 0, .int .i64 0, .int .i64 0, .int .i64 0] 23))
    go_wp2_with fail
    have hS : KW w w.heap.size w4.heap.size w5.heap.size (.int .i64 op) (.int .i64 a) (.int .i64 b) (.int .i64 imm) (.int .i64 0) (.int .i64 0) (.int .i64 0) (.int .i64 0) (w5.alloc (.cells #[.int .i64 0, .int .i64 0, .int .i64 0, .int .i64 0] 23)).drew := by
      refine ⟨?_, ?_, ?_, ?_, ?_, ?_, ?_, ?_, ?_, ?_, ?_, ?_, hT'.out.below hB5.out.drew, hB5.out.drew, by show _ ≤ (w5.alloc _).heap.size; simp; omega⟩
      all_goals go_simp
    generalize (w5.alloc (.cells #[.int .i64 0, .int .i64 0, .int .i64 0, .int .i64 0] 23)) = W at hS ⊢
    have hA' := hide (show mayB op a b imm = false by simpa using hA)
    clear hA hB hb1 hb2 hb3 hb4 hb5 hc1 hc2 hc3 hc4 hc5 hf1 hf2 hf3 hf4 hf5 hs1 hs2 hs3 hs4 hs5 s1 s2 s3 s4 s5 s54 hB1 hB2 hB3 hB4 hB5
    generalize w4.heap.size = g2 at hS ⊢
    generalize w5.heap.size = g3 at hS ⊢
    have hTab := hide (fun (w' : World) (h : KW w w.heap.size g2 g3 (.int .i64 op) (.int .i64 a) (.int .i64 b) (.int .i64 imm) (.int .i64 0) (.int .i64 0) (.int .i64 0) (.int .i64 0) w') => h.tab)
    have hEnd := hide (fun (w' : World) (h : KW w w.heap.size g2 g3 (.int .i64 op) (.int .i64 a) (.int .i64 b) (.int .i64 imm) (.int .i64 0) (.int .i64 0) (.int .i64 0) (.int .i64 0) w') => h.end_)
    go_region_held3 (fun w' => w'.cell? ⟨w.heap.size, 0, none⟩ = some (.int .i64 op) ∧ w'.cell? ⟨w.heap.size, 1, none⟩ = some (.int .i64 a) ∧ w'.cell? ⟨w.heap.size, 2, none⟩ = some (.int .i64 b) ∧ w'.cell? ⟨w.heap.size, 3, none⟩ = some (.int .i64 imm) ∧ w'.cell? ⟨g2, 0, none⟩ = some (.int .i64 0) ∧ w'.cell? ⟨g2, 1, none⟩ = some (.int .i64 0) ∧ w'.cell? ⟨g2, 2, none⟩ = some (.int .i64 0) ∧ w'.cell? ⟨g2, 3, none⟩ = some (.int .i64 0) ∧ w'.cell? ⟨g3, 0, none⟩ = some (.int .i64 0) ∧ w'.cell? ⟨g3, 1, none⟩ = some (.int .i64 0) ∧ w'.cell? ⟨g3, 2, none⟩ = some (.int .i64 0) ∧ w'.cell? ⟨g3, 3, none⟩ = some (.int .i64 0) ∧ Hid (Tab w') ∧ Hid (Below w.heap.size w w') ∧ Hid (w.heap.size ≤ w'.heap.size))
      (first | exact hS | exact KW.keep (by assumption) (by assumption))
      (first
        | (go_at_call 16; refine (may_false (hTab.out _ (by assumption)) hA'.out).mono ?_; rintro e wx ⟨rfl, hb⟩)
        | (go_at_call 17; refine (rmay_false hA'.out).mono ?_; rintro e wx ⟨rfl, hb⟩))
    all_goals go_wp2
    all_goals go_ret
    all_goals exact ⟨rfl, hEnd.out _ (by assumption)⟩

end Go.Proofs.YtjiamhoabbjkmaaDoor.Isa
