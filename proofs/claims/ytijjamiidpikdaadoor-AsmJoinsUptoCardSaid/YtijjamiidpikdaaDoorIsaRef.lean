/-
  The walks of the reference's May, Word and Take: they answer as isa's. Conditions: none.
-/
import Derived.Test.YtijjamiidpikdaaDoorIsaMay
namespace Go.Proofs.YtijjamiidpikdaaDoor.Isa
open Go.RowKit

set_option maxHeartbeats 400000 in
theorem usesA_any (op : Int) (w : World) : Calls Tryd.prog 36 #[.int .i64 op] w fun e w' => e = .returned (.bool (uA op)) ∧ w = w' := by
  go_enter Tryd.func36, Tryd.ntmps36
  go_wp2
  all_goals go_ret
  all_goals exact ⟨ret_bool (by unfold uA; simp_all), rfl⟩

set_option maxHeartbeats 400000 in
theorem usesB_any (op : Int) (w : World) : Calls Tryd.prog 37 #[.int .i64 op] w fun e w' => e = .returned (.bool (uB op)) ∧ w = w' := by
  go_enter Tryd.func37, Tryd.ntmps37
  go_wp2
  all_goals go_ret
  all_goals exact ⟨ret_bool (by unfold uB; rw [Bool.eq_iff_iff]; simp; omega), rfl⟩

set_option maxHeartbeats 400000 in
theorem usesImm_any (op : Int) (w : World) : Calls Tryd.prog 38 #[.int .i64 op] w fun e w' => e = .returned (.bool (uI op)) ∧ w = w' := by
  go_enter Tryd.func38, Tryd.ntmps38
  go_wp2
  all_goals go_ret
  all_goals exact ⟨ret_bool (by unfold uI; rw [Bool.eq_iff_iff]; simp; omega), rfl⟩

set_option maxHeartbeats 400000 in
theorem rmay_out (op a b imm : Int) (w : World) (h : ¬ InR op a b imm) :
    Calls Tryd.prog 25 #[.agg #[.int .i64 op, .int .i64 a, .int .i64 b, .int .i64 imm]] w fun e w' => e = .returned (.bool false) ∧ Below w.heap.size w w' := by
  unfold InR at h
  by_cases h1 : op < 1
  · go_enter Tryd.func25, Tryd.ntmps25
    go_wp2
    go_ret
    exact ⟨rfl, below_new _ _⟩
  by_cases h2 : 24 < op
  · go_enter Tryd.func25, Tryd.ntmps25
    go_wp2
    go_ret
    exact ⟨rfl, below_new _ _⟩
  by_cases h3 : a < 0
  · go_enter Tryd.func25, Tryd.ntmps25
    go_wp2
    go_ret
    exact ⟨rfl, below_new _ _⟩
  by_cases h4 : 7 < a
  · go_enter Tryd.func25, Tryd.ntmps25
    go_wp2
    go_ret
    exact ⟨rfl, below_new _ _⟩
  by_cases h5 : b < 0
  · go_enter Tryd.func25, Tryd.ntmps25
    go_wp2
    go_ret
    exact ⟨rfl, below_new _ _⟩
  by_cases h6 : 7 < b
  · go_enter Tryd.func25, Tryd.ntmps25
    go_wp2
    go_ret
    exact ⟨rfl, below_new _ _⟩
  by_cases h7 : imm < -32768
  · go_enter Tryd.func25, Tryd.ntmps25
    go_wp2
    go_ret
    exact ⟨rfl, below_new _ _⟩
  have h8 : 32767 < imm := by omega
  go_enter Tryd.func25, Tryd.ntmps25
  go_wp2
  go_ret
  exact ⟨rfl, below_new _ _⟩

set_option maxHeartbeats 800000 in
theorem rmay_in (op a b imm : Int) (w : World) (h : InR op a b imm) :
    Calls Tryd.prog 25 #[.agg #[.int .i64 op, .int .i64 a, .int .i64 b, .int .i64 imm]] w fun e w' => e = .returned (.bool (mayB op a b imm)) ∧ Below w.heap.size w w' := by
  have hI := hide h
  obtain ⟨h1, h2, h3, h4, h5, h6, h7, h8⟩ := h
  go_enter Tryd.func25, Tryd.ntmps25
  go_wp2_with fail
  refine (usesA_any op _).mono ?_
  rintro e w1 ⟨rfl, rfl⟩
  go_wp2_with fail
  refine (usesB_any op _).mono ?_
  rintro e w1 ⟨rfl, rfl⟩
  go_wp2_with fail
  refine (usesImm_any op _).mono ?_
  rintro e w1 ⟨rfl, rfl⟩
  go_wp2
  all_goals go_ret
  all_goals refine ⟨ret_bool ?_, below_new _ _⟩
  all_goals
    have hG := hI.out
    clear h1 h2 h3 h4 h5 h6 h7 h8
    unfold mayB Good
    rw [Bool.eq_iff_iff]
    simp_all

theorem rmay_any (op a b imm : Int) (w : World) :
    Calls Tryd.prog 25 #[.agg #[.int .i64 op, .int .i64 a, .int .i64 b, .int .i64 imm]] w fun e w' => e = .returned (.bool (mayB op a b imm)) ∧ Below w.heap.size w w' := by
  by_cases h : InR op a b imm
  · exact rmay_in op a b imm w h
  · refine (rmay_out op a b imm w h).mono ?_
    rintro e w' ⟨rfl, hb⟩
    refine ⟨ret_bool ?_, hb⟩
    unfold mayB Good
    simp [h]
theorem rmay_true {op a b imm : Int} {w : World} (h : mayB op a b imm = true) :
    Calls Tryd.prog 25 #[.agg #[.int .i64 op, .int .i64 a, .int .i64 b, .int .i64 imm]] w fun e w' => e = .returned (.bool true) ∧ Below w.heap.size w w' := by
  have := rmay_any op a b imm w
  rwa [h] at this
theorem rmay_false {op a b imm : Int} {w : World} (h : mayB op a b imm = false) :
    Calls Tryd.prog 25 #[.agg #[.int .i64 op, .int .i64 a, .int .i64 b, .int .i64 imm]] w fun e w' => e = .returned (.bool false) ∧ Below w.heap.size w w' := by
  have := rmay_any op a b imm w
  rwa [h] at this
end Go.Proofs.YtijjamiidpikdaaDoor.Isa
