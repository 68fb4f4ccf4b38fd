/-
  strings.Index and strings.Cut at a separator of one byte, walked. Conditions: none.
-/
import Derived.Test.YtijjamiidpikdaaDoorAsmSplitPlain
import Derived.Test.YtijjamiidpikdaaDoorRow
import Derived.IntWalk
import Derived.Outline
import Derived.Lib.Walk
import Derived.Lib.Bytealg
import Derived.Deep.QuietTactic
import Derived.BigQuiet
namespace Go.Proofs.YtijjamiidpikdaaDoor.Asm
open Go.RowKit

theorem idx_none (c : UInt8) (l : List UInt8) (h : ∀ x ∈ l, x ≠ c) : Lib.indexByte l c = -1 := by
  induction l with
  | nil => rfl
  | cons b l ih =>
    unfold Lib.indexByte
    rw [if_neg (by simpa using h b (by simp)), ih (fun x hx => h x (by simp [hx]))]
    rfl
theorem idx_word (c : UInt8) (w t : List UInt8) (h : ∀ x ∈ w, x ≠ c) : Lib.indexByte (w ++ c :: t) c = (w.length : Int) := by
  induction w with
  | nil => simp [Lib.indexByte]
  | cons b w ih =>
    show Lib.indexByte (b :: (w ++ c :: t)) c = _
    unfold Lib.indexByte
    rw [if_neg (by simpa using h b (by simp)), ih (fun x hx => h x (by simp [hx])), if_neg]
    · simp
    · rw [beq_iff_eq]; omega
/-- a text has the byte, and a first one; or it has it not -/
theorem first_byte (c : UInt8) (l : List UInt8) : (∀ x ∈ l, x ≠ c) ∨ ∃ w t, l = w ++ c :: t ∧ ∀ x ∈ w, x ≠ c := by
  induction l with
  | nil => exact .inl (fun x hx => by cases hx)
  | cons b l ih =>
    by_cases hb : b = c
    · exact .inr ⟨[], l, by rw [hb]; rfl, fun x hx => by cases hx⟩
    · rcases ih with h | ⟨w, t, rfl, h⟩
      · refine .inl (fun x hx => ?_)
        rcases List.mem_cons.1 hx with rfl | hx
        · exact hb
        · exact h x hx
      · refine .inr ⟨b :: w, t, rfl, fun x hx => ?_⟩
        rcases List.mem_cons.1 hx with rfl | hx
        · exact hb
        · exact h x hx

set_option maxHeartbeats 1000000 in
theorem index_byte (l : List UInt8) (c : UInt8) (w : World) :
    Calls Tryd.prog 49 #[.string ⟨l.toArray⟩, .int .u8 (c.toNat : Int)] w fun e w' => e = .returned (.int .i64 (Lib.indexByte l c)) ∧ w = w' := by
  go_enter Tryd.func49, Tryd.ntmps49
  go_wp2
  rw [run_callFunc_extern Tryd.func54 (by kernel_rfl) (by kernel_rfl) (by kernel_rfl) (e := Extern.BytealgIndexByte.indexByte) (by kernel_rfl), Lib.run_indexByteString]
  simp only [Result.andThen]
  rw [Oper.upon_value]
  go_wp2
  go_ret
  exact ⟨by simp, rfl⟩

set_option maxHeartbeats 1000000 in
theorem index_lite (l : List UInt8) (c : UInt8) (w : World) (hne : l ≠ [c]) :
    Calls Tryd.prog 44 #[.string ⟨l.toArray⟩, .string ⟨#[c]⟩] w fun e w' => e = .returned (.int .i64 (Lib.indexByte l c)) ∧ w = w' := by
  have h1 : ([c] == l) = false := by rw [beq_eq_false_iff_ne]; exact fun e => hne e.symm
  go_enter Tryd.func44, Tryd.ntmps44
  go_wp2_with (go_at_call 49; refine (index_byte l c _).mono ?_; rintro e w' ⟨rfl, rfl⟩)
  go_ret
  exact ⟨rfl, rfl⟩
set_option maxHeartbeats 1000000 in
theorem index_self (c : UInt8) (w : World) :
    Calls Tryd.prog 44 #[.string ⟨[c].toArray⟩, .string ⟨#[c]⟩] w fun e w' => e = .returned (.int .i64 (Lib.indexByte [c] c)) ∧ w = w' := by
  go_enter Tryd.func44, Tryd.ntmps44
  go_wp2_with fail
  go_ret
  exact ⟨by simp [Lib.indexByte], rfl⟩
theorem index_any (l : List UInt8) (c : UInt8) (w : World) :
    Calls Tryd.prog 44 #[.string ⟨l.toArray⟩, .string ⟨#[c]⟩] w fun e w' => e = .returned (.int .i64 (Lib.indexByte l c)) ∧ w = w' := by
  by_cases h : l = [c]
  · subst h; exact index_self c w
  · exact index_lite l c w h
set_option maxHeartbeats 400000 in
theorem sindex_any (l : List UInt8) (c : UInt8) (w : World) :
    Calls Tryd.prog 48 #[.string ⟨l.toArray⟩, .string ⟨#[c]⟩] w fun e w' => e = .returned (.int .i64 (Lib.indexByte l c)) ∧ w = w' := by
  go_enter Tryd.func48, Tryd.ntmps48
  go_wp2_with fail
  refine (index_any l c _).mono ?_
  rintro e w' ⟨rfl, rfl⟩
  go_wp2
  go_ret
  exact ⟨rfl, rfl⟩

/-- a text in two, around the first such byte -/
def cutC (c : UInt8) (l : List UInt8) : List UInt8 × List UInt8 × Bool :=
  if Lib.indexByte l c < 0 then (l, [], false) else (l.take (Lib.indexByte l c).toNat, l.drop ((Lib.indexByte l c).toNat + 1), true)
theorem cutC_none {c : UInt8} {l : List UInt8} (h : ∀ x ∈ l, x ≠ c) : cutC c l = (l, [], false) := by
  unfold cutC
  rw [idx_none c l h]
  rfl
theorem cutC_word {c : UInt8} {w t : List UInt8} (h : ∀ x ∈ w, x ≠ c) : cutC c (w ++ c :: t) = (w, t, true) := by
  unfold cutC
  rw [idx_word c w t h, if_neg (by omega)]
  simp [List.drop_append]

theorem ext_front (w t : List UInt8) : (⟨(w ++ t).toArray⟩ : ByteArray).extract 0 w.length = ⟨w.toArray⟩ := by
  apply ByteArray.ext
  rw [ByteArray.data_extract]
  apply Array.toList_inj.1
  simp
theorem ext_back (c : UInt8) (w t : List UInt8) : (⟨(w ++ c :: t).toArray⟩ : ByteArray).extract (w.length + 1) (w.length + (t.length + 1)) = ⟨t.toArray⟩ := by
  apply ByteArray.ext
  rw [ByteArray.data_extract]
  apply Array.toList_inj.1
  simp only [List.extract_toArray, List.extract_eq_take_drop]
  rw [show w ++ c :: t = (w ++ [c]) ++ t by simp, List.drop_append_of_le_length (by simp), List.drop_of_length_le (by simp)]
  exact List.take_of_length_le (by simp; omega)

set_option maxHeartbeats 1000000 in
theorem cut_lite (c : UInt8) (l : List UInt8) (w : World) (hl : l.length ≤ maxLen) :
    Calls Tryd.prog 40 #[.string ⟨l.toArray⟩, .string ⟨#[c]⟩] w fun e w' => e = .returned (.tuple #[.string ⟨(cutC c l).1.toArray⟩, .string ⟨(cutC c l).2.1.toArray⟩, .bool (cutC c l).2.2]) ∧ Below w.heap.size w w' := by
  unfold maxLen at hl
  rcases first_byte c l with h | ⟨a, t, rfl, h⟩
  · rw [cutC_none h]
    have hi := hide (idx_none c l h)
    clear h
    go_enter Tryd.func40, Tryd.ntmps40
    go_wp2_with fail
    refine (index_any l c _).mono ?_
    rintro e w' ⟨rfl, rfl⟩
    rw [hi.out]
    go_wp2
    go_ret3
    exact ⟨rfl, Below.refl _ _⟩
  · rw [cutC_word h]
    have hi := hide (idx_word c a t h)
    clear h
    simp only [List.length_append, List.length_cons] at hl
    have q1 : (0 : Int) ≤ (a.length : Int) := Int.natCast_nonneg _
    have q2 : (a.length : Int) ≤ (a.length : Int) + ((t.length : Int) + 1) := by omega
    have q3 : (a.length : Int) + 1 ≤ (a.length : Int) + ((t.length : Int) + 1) := by omega
    have q4 : IntKind.i64.wrap ((a.length : Int) + 1) = (a.length : Int) + 1 := IntWalk.i64_in _ (by omega)
    have q5 : ((a.length : Int) + 1).toNat = a.length + 1 := by omega
    have q6 : (0 : Int) ≤ (a.length : Int) + 1 := by omega
    go_enter Tryd.func40, Tryd.ntmps40
    go_wp2_with fail
    refine (index_any (a ++ c :: t) c _).mono ?_
    rintro e w' ⟨rfl, rfl⟩
    rw [hi.out]
    go_wp2_with fail
    go_quiet (fail)
    go_wp2
    go_ret3
    exact ⟨by rw [ext_front, ext_back]; rfl, below_drewN _ _⟩
set_option maxHeartbeats 400000 in
theorem cut_any (c : UInt8) (l : List UInt8) (w : World) (hl : l.length ≤ maxLen) :
    Calls Tryd.prog 31 #[.string ⟨l.toArray⟩, .string ⟨#[c]⟩] w fun e w' => e = .returned (.tuple #[.string ⟨(cutC c l).1.toArray⟩, .string ⟨(cutC c l).2.1.toArray⟩, .bool (cutC c l).2.2]) ∧ Below w.heap.size w w' := by
  have hL := hide hl
  clear hl
  go_enter Tryd.func31, Tryd.ntmps31
  go_wp2_with fail
  refine (cut_lite c l _ hL.out).mono ?_
  rintro e w' ⟨rfl, hb⟩
  have hB := hide hb
  clear hb
  go_wp2
  go_ret3
  exact ⟨rfl, hB.out⟩

end Go.Proofs.YtijjamiidpikdaaDoor.Asm
