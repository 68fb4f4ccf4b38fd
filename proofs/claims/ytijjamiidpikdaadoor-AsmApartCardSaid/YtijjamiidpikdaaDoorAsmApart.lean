/-
  The walk of AsmApart: of two instructions that may be, and are not the same, the lines are not; a line is of the instruction that it tells. Conditions: the tables as laid.
-/
import Derived.Test.YtijjamiidpikdaaDoorAsmAny
import Derived.Test.YtijjamiidpikdaaDoorAsmNumbers
namespace Go.Proofs.YtijjamiidpikdaaDoor.Asm
open Go.RowKit Go.Proofs.YtijjamiidpikdaaDoor.Isa

theorem parse_line {n : Nat} {a b imm : Int} (h : mayB n a b imm = true) (w : World) (hT : Tabs w) :
    Calls Tryd.prog 14 #[.string ⟨(lineL n a b imm).toArray⟩] w fun e w' => e = .returned (.tuple #[.agg #[.int .i64 n, .int .i64 a, .int .i64 b, .int .i64 imm], .int .i64 0]) ∧ Below w.heap.size w w' := by
  have h1 := parse_any (lineL n a b imm) (by have := lineL_len h; omega) w hT
  rw [parseA_complete h] at h1
  exact h1

set_option maxRecDepth 100000 in
set_option maxHeartbeats 3200000 in
theorem apart_walk (op a b imm op' a' b' imm' : Int) (w : World) (hT : Tabs w) :
    Calls Tryd.prog 5 #[.agg #[.int .i64 op, .int .i64 a, .int .i64 b, .int .i64 imm], .agg #[.int .i64 op', .int .i64 a', .int .i64 b', .int .i64 imm']] w fun e w' => e = .returned (.bool true) ∧ Below w.heap.size w w' := by
  have hT' := Lib.hid hT
  clear hT
  go_enter Tryd.func5, Tryd.ntmps5
  go_wp2_with fail
  refine (shown_any _ (hT'.out.below ((below_new _ _).alloc (by simp) _))).mono ?_
  rintro e w1 ⟨rfl, hb⟩
  have hI := hide (((ic_new w op a b imm).below (below_new _ (.cells #[.int .i64 op', .int .i64 a', .int .i64 b', .int .i64 imm'] 27))).below hb)
  have hJ0 := ic_new (w.alloc (.cells #[.int .i64 op, .int .i64 a, .int .i64 b, .int .i64 imm] 27)) op' a' b' imm'
  rw [World.size_alloc] at hJ0
  have hJ := hide (hJ0.below hb)
  have hB := hide (below_call2 hb)
  clear hb hJ0
  cases hA : mayB op a b imm with
  | false =>
    obtain ⟨y0, y1, y2, y3⟩ := hI.out.cells
    obtain ⟨z0, z1, z2, z3⟩ := hJ.out.cells
    have HA := hide hA
    clear hA
    go_wp2_with fail
    refine (line_no op a b imm _ (hT'.out.below hB.out) HA.out).mono ?_
    rintro e w2 ⟨rfl, hb⟩
    obtain ⟨z0, z1, z2, z3⟩ := (hJ.out.below hb).cells
    have hB := hide (hB.out.trans (hb.mono hB.out.size))
    clear hb
    go_wp2_with fail
    refine (line_any op' a' b' imm' _ (hT'.out.below hB.out)).mono ?_
    rintro e w3 ⟨rfl, hb⟩
    have hB := hide (hB.out.trans (hb.mono hB.out.size))
    clear hb
    go_wp2_with fail
    go_ret
    exact ⟨rfl, hB.out⟩
  | true =>
    obtain ⟨n, rfl⟩ := Int.eq_ofNat_of_zero_le (show 0 ≤ op by have := (mayB_in hA).1; omega)
    obtain ⟨y0, y1, y2, y3⟩ := hI.out.cells
    have HA := hide hA
    clear hA
    go_wp2_with fail
    refine (line_ok n a b imm _ (hT'.out.below hB.out) HA.out).mono ?_
    rintro e w2 ⟨rfl, hb⟩
    have hI := hide (hI.out.below hb)
    have hJ := hide (hJ.out.below hb)
    have hB := hide (hB.out.trans (hb.mono hB.out.size))
    clear hb y0 y1 y2 y3
    obtain ⟨z0, z1, z2, z3⟩ := hJ.out.cells
    cases hA' : mayB op' a' b' imm' with
    | false =>
      have HA' := hide hA'
      clear hA'
      go_wp2_with fail
      refine (line_no op' a' b' imm' _ (hT'.out.below hB.out) HA'.out).mono ?_
      rintro e w3 ⟨rfl, hb⟩
      have hI := hide (hI.out.below hb)
      have hB := hide (hB.out.trans (hb.mono hB.out.size))
      clear hb z0 z1 z2 z3 hJ
      go_wp2_with fail
      refine (parse_line HA.out _ (hT'.out.below hB.out)).mono ?_
      rintro e w4 ⟨rfl, hb⟩
      obtain ⟨y0, y1, y2, y3⟩ := ((hI.out.below hb).below (below_new _ (.cells #[.int .i64 n, .int .i64 a, .int .i64 b, .int .i64 imm] 27))).cells
      have hB := hide ((hB.out.trans (hb.mono hB.out.size)).alloc (hB.out.trans (hb.mono hB.out.size)).size (.cells #[.int .i64 n, .int .i64 a, .int .i64 b, .int .i64 imm] 27))
      obtain ⟨x0, x1, x2, x3⟩ := (ic_new w4 n a b imm).cells
      clear hb
      go_wp2_with fail
      go_ret
      exact ⟨rfl, hB.out⟩
    | true =>
      obtain ⟨m, rfl⟩ := Int.eq_ofNat_of_zero_le (show 0 ≤ op' by have := (mayB_in hA').1; omega)
      have HA' := hide hA'
      clear hA'
      go_wp2_with fail
      refine (line_ok m a' b' imm' _ (hT'.out.below hB.out) HA'.out).mono ?_
      rintro e w3 ⟨rfl, hb⟩
      have hI := hide (hI.out.below hb)
      have hJ := hide (hJ.out.below hb)
      have hB := hide (hB.out.trans (hb.mono hB.out.size))
      clear hb z0 z1 z2 z3
      go_wp2_with fail
      refine (parse_line HA.out _ (hT'.out.below hB.out)).mono ?_
      rintro e w4 ⟨rfl, hb⟩
      obtain ⟨y0, y1, y2, y3⟩ := ((hI.out.below hb).below (below_new _ (.cells #[.int .i64 n, .int .i64 a, .int .i64 b, .int .i64 imm] 27))).cells
      obtain ⟨z0, z1, z2, z3⟩ := ((hJ.out.below hb).below (below_new _ (.cells #[.int .i64 n, .int .i64 a, .int .i64 b, .int .i64 imm] 27))).cells
      have hB := hide ((hB.out.trans (hb.mono hB.out.size)).alloc (hB.out.trans (hb.mono hB.out.size)).size (.cells #[.int .i64 n, .int .i64 a, .int .i64 b, .int .i64 imm] 27))
      obtain ⟨x0, x1, x2, x3⟩ := (ic_new w4 n a b imm).cells
      clear hb
      by_cases heq : n = m ∧ a = a' ∧ b = b' ∧ imm = imm'
      · obtain ⟨rfl, rfl, rfl, rfl⟩ := heq
        go_wp2_with fail
        go_ret
        exact ⟨rfl, hB.out⟩
      · have hne : (lineL n a b imm == lineL m a' b' imm') = false := by
          rw [beq_eq_false_iff_ne]
          intro h
          exact heq (line_inj HA.out HA'.out h)
        have hQ := hide heq
        clear heq
        go_upto_region 7 with fail
        generalize (w4.alloc (.cells #[.int .i64 n, .int .i64 a, .int .i64 b, .int .i64 imm] 27)) = W5 at y0 y1 y2 y3 z0 z1 z2 z3 x0 x1 x2 x3 hB ⊢
        go_wp2_with fail
        all_goals first
          | exact absurd ⟨by omega, by omega, by omega, by omega⟩ hQ.out
          | (go_ret; exact ⟨rfl, hB.out⟩)

end Go.Proofs.YtijjamiidpikdaaDoor.Asm
