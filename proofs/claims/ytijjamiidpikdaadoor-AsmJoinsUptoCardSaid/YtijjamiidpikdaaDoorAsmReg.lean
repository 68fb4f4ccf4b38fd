/-
  The walk of asm.reg: a register's number. Conditions: none.
-/
import Derived.Test.YtijjamiidpikdaaDoorAsmNum
import Derived.Test.YtijjamiidpikdaaDoorAsmRegPlain
namespace Go.Proofs.YtijjamiidpikdaaDoor.Asm
open Go.RowKit

theorem cut_r (l : List UInt8) (w : World) :
    Calls Tryd.prog 24 #[.string ⟨l.toArray⟩, .string ⟨#[114]⟩] w fun e w' => e = .returned (.tuple #[.string ⟨(cutR l).1.toArray⟩, .bool (cutR l).2]) ∧ w = w' := by
  refine (Tryd.strings_CutPrefix _ _ _).mono ?_
  rintro e w' ⟨rfl, rfl⟩
  refine ⟨?_, rfl⟩
  cases l with
  | nil => rfl
  | cons c t =>
    by_cases h : c = 114
    · subst h
      simp [cutR, Lib.trimPrefix, Lib.hasPrefix]
    · have h' : ¬ 114 = c := fun e => h e.symm
      have hp : [114].isPrefixOf (c :: t) = false := by
        show ((114 == c) && List.isPrefixOf [] t) = false
        rw [show ((114 : UInt8) == c) = false from by rw [beq_eq_false_iff_ne]; exact h']
        rfl
      simp [cutR, Lib.trimPrefix, Lib.hasPrefix, h, hp]

set_option maxHeartbeats 800000 in
theorem reg_any (l : List UInt8) (w : World) (hl : l.length ≤ maxLen) :
    Calls Tryd.prog 29 #[.string ⟨l.toArray⟩] w fun e w' => e = .returned (.tuple #[.int .i64 (regV l).1, .bool (regV l).2]) ∧ Below w.heap.size w w' := by
  have hcl : (cutR l).1.length ≤ maxLen := by
    cases l with
    | nil => exact hl
    | cons c t =>
      show (if c = 114 then (t, true) else (c :: t, false)).1.length ≤ maxLen
      split
      · simp at hl ⊢; omega
      · exact hl
  have HC := hide hcl
  clear hcl hl
  have hV : Hid (regV l = ((numV (cutR l).1).1, (cutR l).2 && (numV (cutR l).1).2)) := rfl
  go_enter Tryd.func29, Tryd.ntmps29
  go_wp2_with fail
  refine (cut_r l _).mono ?_
  rintro e w' ⟨rfl, rfl⟩
  go_wp2_with fail
  refine (number_any (cutR l).1 _ HC.out).mono ?_
  rintro e w1 ⟨rfl, hb⟩
  have hB := hide hb
  clear hb
  clear HC
  generalize (numV (cutR l).1).2 = has at hV ⊢
  generalize (numV (cutR l).1).1 = n at hV ⊢
  generalize (cutR l).2 = is at hV ⊢
  cases is
  · go_wp2
    go_ret2
    exact ⟨by rw [hV.out]; simp, hB.out⟩
  · go_wp2
    go_ret2
    exact ⟨by rw [hV.out]; simp, hB.out⟩

end Go.Proofs.YtijjamiidpikdaaDoor.Asm
