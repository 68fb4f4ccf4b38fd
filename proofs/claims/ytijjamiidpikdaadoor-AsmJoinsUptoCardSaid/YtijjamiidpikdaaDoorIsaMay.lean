/-
  The walk of isa.May: it answers 'mayB'. Conditions: the table 'uses' as laid.
-/
import Derived.Test.YtijjamiidpikdaaDoorIsaPlain
import Derived.Test.YtijjamiidpikdaaDoorKit
import Derived.Lib.LaidTab
namespace Go.Proofs.YtijjamiidpikdaaDoor.Isa
open Go.RowKit

/-- the table's cells -/
def Tab (w : World) : Prop := 2 < w.heap.size ∧ ∀ n : Nat, n < 25 → w.cell? ⟨2, n, none⟩ = some (.int .i64 (usesL.getD n 0))
theorem Tab.below {w w' : World} (h : Tab w) (hb : Below w.heap.size w w') : Tab w' :=
  ⟨Nat.lt_of_lt_of_le h.1 hb.size, fun n hn => (hb.cell (p := ⟨2, n, none⟩) h.1).trans (h.2 n hn)⟩

set_option maxHeartbeats 400000 in
theorem may_out (op a b imm : Int) (w : World) (h : ¬ InR op a b imm) :
    Calls Tryd.prog 22 #[.agg #[.int .i64 op, .int .i64 a, .int .i64 b, .int .i64 imm]] w fun e w' => e = .returned (.bool false) ∧ Below w.heap.size w w' := by
  unfold InR at h
  by_cases h1 : op < 1
  · go_enter Tryd.func22, Tryd.ntmps22
    go_wp2
    go_ret
    exact ⟨rfl, (Below.refl _ _).alloc (Nat.le_refl _) _⟩
  by_cases h2 : 24 < op
  · go_enter Tryd.func22, Tryd.ntmps22
    go_wp2
    go_ret
    exact ⟨rfl, (Below.refl _ _).alloc (Nat.le_refl _) _⟩
  by_cases h3 : a < 0
  · go_enter Tryd.func22, Tryd.ntmps22
    go_wp2
    go_ret
    exact ⟨rfl, (Below.refl _ _).alloc (Nat.le_refl _) _⟩
  by_cases h4 : 8 ≤ a
  · go_enter Tryd.func22, Tryd.ntmps22
    go_wp2
    go_ret
    exact ⟨rfl, (Below.refl _ _).alloc (Nat.le_refl _) _⟩
  by_cases h5 : b < 0
  · go_enter Tryd.func22, Tryd.ntmps22
    go_wp2
    go_ret
    exact ⟨rfl, (Below.refl _ _).alloc (Nat.le_refl _) _⟩
  by_cases h6 : 8 ≤ b
  · go_enter Tryd.func22, Tryd.ntmps22
    go_wp2
    go_ret
    exact ⟨rfl, (Below.refl _ _).alloc (Nat.le_refl _) _⟩
  by_cases h7 : imm < -32768
  · go_enter Tryd.func22, Tryd.ntmps22
    go_wp2
    go_ret
    exact ⟨rfl, (Below.refl _ _).alloc (Nat.le_refl _) _⟩
  have h8 : 32767 < imm := by omega
  go_enter Tryd.func22, Tryd.ntmps22
  go_wp2
  go_ret
  exact ⟨rfl, (Below.refl _ _).alloc (Nat.le_refl _) _⟩

/-- what it answers by the table's entry u -/
def mayU (u a b imm : Int) : Bool := ((bits .and .i64 u 1 != 0) || (a == 0)) && ((bits .and .i64 u 2 != 0) || (b == 0)) && ((bits .and .i64 u 4 != 0) || (imm == 0))

set_option maxHeartbeats 800000 in
theorem may_in (n : Nat) (a b imm u : Int) (w : World) (h : InR n a b imm) (hz : 2 < w.heap.size) (hc : w.cell? ⟨2, n, none⟩ = some (.int .i64 u)) :
    Calls Tryd.prog 22 #[.agg #[.int .i64 n, .int .i64 a, .int .i64 b, .int .i64 imm]] w fun e w' => e = .returned (.bool (mayU u a b imm)) ∧ Below w.heap.size w w' := by
  obtain ⟨h1, h2, h3, h4, h5, h6, h7, h8⟩ := h
  go_enter Tryd.func22, Tryd.ntmps22
  go_wp2
  all_goals go_ret
  all_goals refine ⟨ret_bool ?_, ((Below.refl _ _).alloc (Nat.le_refl _) _).alloc (by simp) _⟩
  all_goals (clear hc hz h1 h2 h3 h4 h5 h6 h7 h8; unfold mayU; simp_all; try (intros; omega))

theorem mayU_uses : ∀ n : Nat, n < 25 → 1 ≤ n → (bits .and .i64 (usesL.getD n 0) 1 != 0) = uA n ∧ (bits .and .i64 (usesL.getD n 0) 2 != 0) = uB n ∧ (bits .and .i64 (usesL.getD n 0) 4 != 0) = uI n := by
  decide +kernel

theorem may_any (op a b imm : Int) (w : World) (hT : Tab w) :
    Calls Tryd.prog 22 #[.agg #[.int .i64 op, .int .i64 a, .int .i64 b, .int .i64 imm]] w fun e w' => e = .returned (.bool (mayB op a b imm)) ∧ Below w.heap.size w w' := by
  by_cases h : InR op a b imm
  · have h' := h
    obtain ⟨h1, h2, _⟩ := h'
    obtain ⟨n, rfl⟩ := Int.eq_ofNat_of_zero_le (show 0 ≤ op by omega)
    refine (may_in n a b imm _ w h hT.1 (hT.2 n (by omega))).mono ?_
    rintro e w' ⟨rfl, hb⟩
    refine ⟨ret_bool ?_, hb⟩
    obtain ⟨e1, e2, e3⟩ := mayU_uses n (by omega) (by omega)
    unfold mayU mayB Good
    rw [e1, e2, e3]
    rw [Bool.eq_iff_iff]
    simp [h, and_assoc]
  · refine (may_out op a b imm w h).mono ?_
    rintro e w' ⟨rfl, hb⟩
    refine ⟨ret_bool ?_, hb⟩
    unfold mayB Good
    simp [h]

theorem may_true {op a b imm : Int} {w : World} (hT : Tab w) (h : mayB op a b imm = true) :
    Calls Tryd.prog 22 #[.agg #[.int .i64 op, .int .i64 a, .int .i64 b, .int .i64 imm]] w fun e w' => e = .returned (.bool true) ∧ Below w.heap.size w w' := by
  have := may_any op a b imm w hT
  rwa [h] at this
theorem may_false {op a b imm : Int} {w : World} (hT : Tab w) (h : mayB op a b imm = false) :
    Calls Tryd.prog 22 #[.agg #[.int .i64 op, .int .i64 a, .int .i64 b, .int .i64 imm]] w fun e w' => e = .returned (.bool false) ∧ Below w.heap.size w w' := by
  have := may_any op a b imm w hT
  rwa [h] at this

end Go.Proofs.YtijjamiidpikdaaDoor.Isa
