/-
  What the second form's bound gives: of a reading's bulk, the lengths of its strings and slices. Conditions: none.
-/
import Derived.Test.YtijjamiidpikdaaDoorKit
namespace Go.Proofs.YtijjamiidpikdaaDoor

theorem bulk_pos {H : Type} (d : DataW H) : 1 ≤ Rows.uptoBulk d := by
  cases d with
  | lit l => cases l <;> simp [Rows.uptoBulk]
  | _ => simp [Rows.uptoBulk]
theorem bulk_length {H : Type} (l : List (DataW H)) : l.length ≤ Rows.uptoBulkAll l := by
  induction l with
  | nil => simp
  | cons x r ih => have := bulk_pos x; simp only [Rows.uptoBulkAll, List.length_cons]; omega
theorem bulk_slice {H : Type} (elems spare : List (DataW H)) : elems.length + spare.length + 1 ≤ Rows.uptoBulk (.slice elems spare) := by
  have h1 := bulk_length elems
  have h2 := bulk_length spare
  simp only [Rows.uptoBulk]
  omega
theorem bulk_all {H : Type} {l : List (DataW H)} (h : Rows.uptoSmall H l = true) : Rows.uptoBulkAll l ≤ 1048576 := of_decide_eq_true h
theorem bulk_one {H : Type} {d : DataW H} (h : Rows.uptoSmall H ([d] ++ []) = true) : Rows.uptoBulk d ≤ 1048576 := by
  have := bulk_all h
  simp only [List.append_nil, Rows.uptoBulkAll] at this
  omega
theorem bulk_two {H : Type} {d e : DataW H} (h : Rows.uptoSmall H ([d, e] ++ []) = true) : Rows.uptoBulk d + Rows.uptoBulk e ≤ 1048576 := by
  have := bulk_all h
  simp only [List.append_nil, Rows.uptoBulkAll] at this
  omega
theorem bulk_string {H : Type} (s : ByteArray) : Rows.uptoBulk (DataW.lit (H := H) (.string s.data.toList)) = s.size + 1 := by
  show s.data.toList.length + 1 = s.size + 1
  rw [Array.length_toList]
  rfl

end Go.Proofs.YtijjamiidpikdaaDoor
