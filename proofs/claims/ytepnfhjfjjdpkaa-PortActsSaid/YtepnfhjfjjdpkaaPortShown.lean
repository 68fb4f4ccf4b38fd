/-
  The walk of the statements' common head, shown(): it answers true. Conditions: none.
-/
import Derived.Test.YtepnfhjfjjdpkaaPortSend
import Derived.Test.YtepnfhjfjjdpkaaPortTake
namespace Go.Proofs.Ytepnfhjfjjdpkaa.Port
open Go.RowKit

theorem send_lost1 (A : Option Addr) (c : Nat) (w : World) :
    Calls Try.prog 11 #[.agg #[.int .i64 2, .int .i64 0, .int .i64 1, .int .i64 4, .int .i64 1], .agg #[.slice A 1 c, .int .i64 0], .int .u64 2, .string ⟨#[98]⟩] w fun e w' =>
      e = .returned (.tuple #[.agg #[.slice A 1 c, .int .i64 1], .int .i64 0]) ∧ Below w.heap.size w w' :=
  by
    have h := send_lost 2 0 1 4 1 0 2 A 1 c ⟨#[98]⟩ w (by decide) (by decide) (by decide) rfl (by omega)
    rwa [show wrap64 (0 + 1) = 1 from IntWalk.wrap64_in 1 ⟨by omega, by omega⟩] at h

set_option maxHeartbeats 1600000 in
theorem shown_any (w : World) : Calls Try.prog 10 #[] w fun e w' => e = .returned (.bool true) ∧ Below w.heap.size w w' := by
  go_enter Try.func10, Try.ntmps10
  go_wp2_with fail
  refine (send_queue 2 0 1 4 1 0 1 none 0 0 [] _ _ (Rd.nil _) (by omega) (by decide) (by decide) rfl (by decide)).mono ?_
  rintro e w1 ⟨A1, c1, rfl, -, hR1, hb1⟩
  have hR1' := hide hR1
  have hs1 := hb1.size
  simp only [World.size_alloc] at hs1
  have hB1 := hide (below_call2 hb1)
  obtain ⟨hc1, hf1⟩ := bcell hb1
  have p0 : w.heap.size < w1.heap.size := by omega
  have p1 : w.heap.size + 1 < w1.heap.size := by omega
  clear hR1 hb1
  go_wp2_with fail
  refine (send_lost1 A1 c1 _).mono ?_
  rintro e w2 ⟨rfl, hb2⟩
  have hs2 := hb2.size
  simp only [World.size_alloc] at hs2
  obtain ⟨hc2, hf2⟩ := bcell hb2
  have q0 : w.heap.size < w2.heap.size := by omega
  have q1 : w.heap.size + 1 < w2.heap.size := by omega
  have q2 : w1.heap.size < w2.heap.size := by omega
  have hC2 := hide (below_call hb2)
  have u0 : w2.cell? ⟨w1.heap.size, 0, none⟩ = some (.slice A1 1 c1) := (hc2 _ _ (by simp <;> omega)).trans (by simp [go_sem])
  have u1 : w2.cell? ⟨w1.heap.size, 1, none⟩ = some (.int .i64 0) := (hc2 _ _ (by simp <;> omega)).trans (by simp [go_sem])
  clear hb2
  go_wp2_with fail
  refine (take_queue 2 0 1 4 1 1 A1 1 c1 (1, ⟨#[97]⟩) [] _ (by exact hR1'.out.below ((hC2.out.setCell (by simp) _).setCell (by simp) _)) rfl).mono ?_
  rintro e w3 ⟨A3, rfl, hR3, hb3⟩
  have hs3 := hb3.size
  simp only [World.size_setCell] at hs3
  obtain ⟨hc3, hf3⟩ := bcell hb3
  have r0 : w.heap.size < w3.heap.size := by omega
  have r1 : w.heap.size + 1 < w3.heap.size := by omega
  have r2 : w1.heap.size < w3.heap.size := by omega
  have hC3 := hide ((((hB1.out.trans (hC2.out.mono (by omega))).setCell (by show w.heap.size ≤ w1.heap.size; omega) (.slice A1 1 c1)).setCell (by show w.heap.size ≤ w1.heap.size; omega) (.int .i64 1)).trans (hb3.mono (by simp only [World.size_setCell]; omega)))
  have v0 : w3.cell? ⟨w1.heap.size, 0, none⟩ = some (.slice A1 1 c1) := (hc3 _ _ (by simp <;> omega)).trans (by simp [go_sem, u0, u1])
  have v1 : w3.cell? ⟨w1.heap.size, 1, none⟩ = some (.int .i64 1) := (hc3 _ _ (by simp <;> omega)).trans (by simp [go_sem, u0, u1])
  clear hb3 hR3
  go_wp2_with fail
  refine (send_sample 0 1 4 1 0 1 none 0 0 ⟨#[97]⟩ _ (by decide) (by decide)).mono ?_
  rintro e w4 ⟨A4, c4, rfl, -, hR4, hb4⟩
  have hs4 := hb4.size
  simp only [World.size_alloc, World.size_setCell] at hs4
  obtain ⟨hc4, hf4⟩ := bcell hb4
  have o4_0 : w.heap.size < w4.heap.size := by omega
  have o4_1 : w.heap.size + 1 < w4.heap.size := by omega
  have o4_2 : w1.heap.size < w4.heap.size := by omega
  have o4_3 : w3.heap.size < w4.heap.size := by omega
  have o4_4 : w3.heap.size + 1 < w4.heap.size := by omega
  have hC4 := hide (((hC3.out.alloc (by omega) (.cells #[.slice A3 0 0, .int .i64 1] 26)).alloc (by simp only [World.size_alloc]; omega) (.cells #[.int .u64 1, .string ⟨#[97]⟩] 39)).trans (hb4.mono (by simp only [World.size_alloc]; omega)))
  have l4_0 : w4.cell? ⟨w.heap.size + 1, 0, none⟩ = some (.int .i64 1) := (hc4 _ _ (by simp <;> omega)).trans (by go_simp)
  have l4_1 : w4.cell? ⟨w.heap.size + 1, 1, none⟩ = some (.int .i64 0) := (hc4 _ _ (by simp <;> omega)).trans (by go_simp)
  have l4_2 : w4.cell? ⟨w.heap.size + 1, 2, none⟩ = some (.int .i64 1) := (hc4 _ _ (by simp <;> omega)).trans (by go_simp)
  have l4_3 : w4.cell? ⟨w.heap.size + 1, 3, none⟩ = some (.int .i64 4) := (hc4 _ _ (by simp <;> omega)).trans (by go_simp)
  have l4_4 : w4.cell? ⟨w.heap.size + 1, 4, none⟩ = some (.int .i64 1) := (hc4 _ _ (by simp <;> omega)).trans (by go_simp)
  have l4_5 : w4.cell? ⟨w1.heap.size, 1, none⟩ = some (.int .i64 1) := (hc4 _ _ (by simp <;> omega)).trans (by go_simp)
  have l4_6 : w4.cell? ⟨w3.heap.size, 0, none⟩ = some (.slice A3 0 0) := (hc4 _ _ (by simp <;> omega)).trans (by go_simp)
  have l4_7 : w4.cell? ⟨w3.heap.size, 1, none⟩ = some (.int .i64 1) := (hc4 _ _ (by simp <;> omega)).trans (by go_simp)
  have l4_8 : w4.cell? ⟨w3.heap.size + 1, 0, none⟩ = some (.int .u64 1) := (hc4 _ _ (by simp <;> omega)).trans (by go_simp)
  have l4_9 : w4.cell? ⟨w3.heap.size + 1, 1, none⟩ = some (.string ⟨#[97]⟩) := (hc4 _ _ (by simp <;> omega)).trans (by go_simp)
  clear hb4 hc4
  clear hR4
  go_wp2_with fail
  refine (send_sample 0 1 4 1 0 2 A4 1 c4 ⟨#[98]⟩ _ (by decide) (by decide)).mono ?_
  rintro e w5 ⟨A5, c5, rfl, hF5, hR5, hb5⟩
  have hs5 := hb5.size
  simp only [World.size_alloc, World.size_setCell] at hs5
  obtain ⟨hc5, hf5⟩ := bcell hb5
  have o5_0 : w.heap.size < w5.heap.size := by omega
  have o5_1 : w.heap.size + 1 < w5.heap.size := by omega
  have o5_2 : w1.heap.size < w5.heap.size := by omega
  have o5_3 : w3.heap.size < w5.heap.size := by omega
  have o5_4 : w3.heap.size + 1 < w5.heap.size := by omega
  have o5_5 : w4.heap.size < w5.heap.size := by omega
  have hC5 := hide ((hC4.out.alloc (by omega) (.cells #[.slice A4 1 c4, .int .i64 0] 26)).trans (hb5.mono (by simp only [World.size_alloc]; omega)))
  have l5_0 : w5.cell? ⟨w.heap.size + 1, 0, none⟩ = some (.int .i64 1) := (hc5 _ _ (by simp <;> omega)).trans (by go_simp)
  have l5_1 : w5.cell? ⟨w.heap.size + 1, 1, none⟩ = some (.int .i64 0) := (hc5 _ _ (by simp <;> omega)).trans (by go_simp)
  have l5_2 : w5.cell? ⟨w.heap.size + 1, 2, none⟩ = some (.int .i64 1) := (hc5 _ _ (by simp <;> omega)).trans (by go_simp)
  have l5_3 : w5.cell? ⟨w.heap.size + 1, 3, none⟩ = some (.int .i64 4) := (hc5 _ _ (by simp <;> omega)).trans (by go_simp)
  have l5_4 : w5.cell? ⟨w.heap.size + 1, 4, none⟩ = some (.int .i64 1) := (hc5 _ _ (by simp <;> omega)).trans (by go_simp)
  have l5_5 : w5.cell? ⟨w1.heap.size, 1, none⟩ = some (.int .i64 1) := (hc5 _ _ (by simp <;> omega)).trans (by go_simp)
  have l5_6 : w5.cell? ⟨w3.heap.size, 0, none⟩ = some (.slice A3 0 0) := (hc5 _ _ (by simp <;> omega)).trans (by go_simp)
  have l5_7 : w5.cell? ⟨w3.heap.size, 1, none⟩ = some (.int .i64 1) := (hc5 _ _ (by simp <;> omega)).trans (by go_simp)
  have l5_8 : w5.cell? ⟨w3.heap.size + 1, 0, none⟩ = some (.int .u64 1) := (hc5 _ _ (by simp <;> omega)).trans (by go_simp)
  have l5_9 : w5.cell? ⟨w3.heap.size + 1, 1, none⟩ = some (.string ⟨#[97]⟩) := (hc5 _ _ (by simp <;> omega)).trans (by go_simp)
  have l5_10 : w5.cell? ⟨w4.heap.size, 0, none⟩ = some (.slice A4 1 c4) := (hc5 _ _ (by simp <;> omega)).trans (by go_simp)
  have l5_11 : w5.cell? ⟨w4.heap.size, 1, none⟩ = some (.int .i64 0) := (hc5 _ _ (by simp <;> omega)).trans (by go_simp)
  clear hb5 hc5
  have hR5' := hide (((hR5.setCell (p := ⟨w4.heap.size, 0, none⟩) (fun b hb => by have := hF5 b hb; simp only [World.size_alloc] at this; show b.block ≠ w4.heap.size; omega) (.slice A5 1 c5)).setCell (p := ⟨w4.heap.size, 1, none⟩) (fun b hb => by have := hF5 b hb; simp only [World.size_alloc] at this; show b.block ≠ w4.heap.size; omega) (.int .i64 0)))
  have hD5 := hide ((hC5.out.setCell (p := ⟨w4.heap.size, 0, none⟩) (by show w.heap.size ≤ w4.heap.size; omega) (.slice A5 1 c5)).setCell (p := ⟨w4.heap.size, 1, none⟩) (by show w.heap.size ≤ w4.heap.size; omega) (.int .i64 0))
  have hF5' := hide (fun (b : Addr) (hb : A5 = some b) => show b.block ≠ w4.heap.size from by have := hF5 b hb; simp only [World.size_alloc] at this; omega)
  clear hR5 hF5
  go_wp2_with fail
  refine (take_sample 0 1 4 1 0 A5 1 c5 (2, ⟨#[98]⟩) [] _ (by exact hR5'.out)).mono ?_
  rintro e w6 ⟨rfl, hb6⟩
  have hR6' := hide (hR5'.out.below hb6)
  have hs6 := hb6.size
  simp only [World.size_alloc, World.size_setCell] at hs6
  obtain ⟨hc6, hf6⟩ := bcell hb6
  have o6_0 : w.heap.size < w6.heap.size := by omega
  have o6_1 : w.heap.size + 1 < w6.heap.size := by omega
  have o6_2 : w1.heap.size < w6.heap.size := by omega
  have o6_3 : w3.heap.size < w6.heap.size := by omega
  have o6_4 : w3.heap.size + 1 < w6.heap.size := by omega
  have o6_5 : w4.heap.size < w6.heap.size := by omega
  have hC6 := hide (hD5.out.trans (hb6.mono (by simp only [World.size_setCell]; omega)))
  have l6_0 : w6.cell? ⟨w.heap.size + 1, 0, none⟩ = some (.int .i64 1) := (hc6 _ _ (by simp <;> omega)).trans (by go_simp)
  have l6_1 : w6.cell? ⟨w.heap.size + 1, 1, none⟩ = some (.int .i64 0) := (hc6 _ _ (by simp <;> omega)).trans (by go_simp)
  have l6_2 : w6.cell? ⟨w.heap.size + 1, 2, none⟩ = some (.int .i64 1) := (hc6 _ _ (by simp <;> omega)).trans (by go_simp)
  have l6_3 : w6.cell? ⟨w.heap.size + 1, 3, none⟩ = some (.int .i64 4) := (hc6 _ _ (by simp <;> omega)).trans (by go_simp)
  have l6_4 : w6.cell? ⟨w.heap.size + 1, 4, none⟩ = some (.int .i64 1) := (hc6 _ _ (by simp <;> omega)).trans (by go_simp)
  have l6_5 : w6.cell? ⟨w1.heap.size, 1, none⟩ = some (.int .i64 1) := (hc6 _ _ (by simp <;> omega)).trans (by go_simp)
  have l6_6 : w6.cell? ⟨w3.heap.size, 0, none⟩ = some (.slice A3 0 0) := (hc6 _ _ (by simp <;> omega)).trans (by go_simp)
  have l6_7 : w6.cell? ⟨w3.heap.size, 1, none⟩ = some (.int .i64 1) := (hc6 _ _ (by simp <;> omega)).trans (by go_simp)
  have l6_8 : w6.cell? ⟨w3.heap.size + 1, 0, none⟩ = some (.int .u64 1) := (hc6 _ _ (by simp <;> omega)).trans (by go_simp)
  have l6_9 : w6.cell? ⟨w3.heap.size + 1, 1, none⟩ = some (.string ⟨#[97]⟩) := (hc6 _ _ (by simp <;> omega)).trans (by go_simp)
  have l6_10 : w6.cell? ⟨w4.heap.size, 0, none⟩ = some (.slice A5 1 c5) := (hc6 _ _ (by simp <;> omega)).trans (by go_simp)
  have l6_11 : w6.cell? ⟨w4.heap.size, 1, none⟩ = some (.int .i64 0) := (hc6 _ _ (by simp <;> omega)).trans (by go_simp)
  clear hb6 hc6
  go_wp2_with fail
  have hR7 := hide (((hR6'.out.setCell (p := ⟨w4.heap.size, 0, none⟩) hF5'.out (.slice A5 1 c5)).setCell (p := ⟨w4.heap.size, 1, none⟩) hF5'.out (.int .i64 0)).alloc (.cells #[.int .u64 2, .string ⟨#[98]⟩] 39))
  have hD6 := hide (((hC6.out.setCell (p := ⟨w4.heap.size, 0, none⟩) (by show w.heap.size ≤ w4.heap.size; omega) (.slice A5 1 c5)).setCell (p := ⟨w4.heap.size, 1, none⟩) (by show w.heap.size ≤ w4.heap.size; omega) (.int .i64 0)).alloc (by simp only [World.size_setCell]; omega) (.cells #[.int .u64 2, .string ⟨#[98]⟩] 39))
  refine (take_sample 0 1 4 1 0 A5 1 c5 (2, ⟨#[98]⟩) [] _ (by exact hR7.out)).mono ?_
  rintro e w7 ⟨rfl, hb7⟩
  have hs7 := hb7.size
  simp only [World.size_alloc, World.size_setCell] at hs7
  obtain ⟨hc7, hf7⟩ := bcell hb7
  have o7_0 : w.heap.size < w7.heap.size := by omega
  have o7_1 : w.heap.size + 1 < w7.heap.size := by omega
  have o7_2 : w1.heap.size < w7.heap.size := by omega
  have o7_3 : w3.heap.size < w7.heap.size := by omega
  have o7_4 : w3.heap.size + 1 < w7.heap.size := by omega
  have o7_5 : w4.heap.size < w7.heap.size := by omega
  have o7_6 : w6.heap.size < w7.heap.size := by omega
  have hC7 := hide (hD6.out.trans (hb7.mono (by simp only [World.size_setCell, World.size_alloc]; omega)))
  have l7_0 : w7.cell? ⟨w1.heap.size, 1, none⟩ = some (.int .i64 1) := (hc7 _ _ (by simp <;> omega)).trans (by go_simp)
  have l7_1 : w7.cell? ⟨w3.heap.size, 0, none⟩ = some (.slice A3 0 0) := (hc7 _ _ (by simp <;> omega)).trans (by go_simp)
  have l7_2 : w7.cell? ⟨w3.heap.size, 1, none⟩ = some (.int .i64 1) := (hc7 _ _ (by simp <;> omega)).trans (by go_simp)
  have l7_3 : w7.cell? ⟨w3.heap.size + 1, 0, none⟩ = some (.int .u64 1) := (hc7 _ _ (by simp <;> omega)).trans (by go_simp)
  have l7_4 : w7.cell? ⟨w3.heap.size + 1, 1, none⟩ = some (.string ⟨#[97]⟩) := (hc7 _ _ (by simp <;> omega)).trans (by go_simp)
  have l7_5 : w7.cell? ⟨w6.heap.size, 0, none⟩ = some (.int .u64 2) := (hc7 _ _ (by simp <;> omega)).trans (by go_simp)
  have l7_6 : w7.cell? ⟨w6.heap.size, 1, none⟩ = some (.string ⟨#[98]⟩) := (hc7 _ _ (by simp <;> omega)).trans (by go_simp)
  clear hb7 hc7
  have hD7 := hide ((hC7.out.alloc (by omega) (.cells #[.slice A5 1 c5, .int .i64 0] 26)).alloc (by simp only [World.size_alloc]; omega) (.cells #[.int .u64 2, .string ⟨#[98]⟩] 39))
  go_wp2_with fail
  refine (waits_any A3 0 0 1 _ (by decide)).mono ?_
  rintro e w8 ⟨rfl, hb8⟩
  have hs8 := hb8.size
  simp only [World.size_alloc] at hs8
  obtain ⟨hc8, hf8⟩ := bcell hb8
  have e0 : w8.cell? ⟨w6.heap.size, 1, none⟩ = some (.string ⟨#[98]⟩) := (hc8 _ _ (by simp <;> omega)).trans (by go_simp)
  have e1 : w8.cell? ⟨w7.heap.size + 1, 1, none⟩ = some (.string ⟨#[98]⟩) := (hc8 _ _ (by simp <;> omega)).trans (by go_simp)
  have hC8 := hide (hD7.out.trans (hb8.mono (by simp only [World.size_alloc]; omega)))
  clear hb8 hc8
  go_wp2
  go_ret
  exact ⟨rfl, hC8.out⟩
end Go.Proofs.Ytepnfhjfjjdpkaa.Port
