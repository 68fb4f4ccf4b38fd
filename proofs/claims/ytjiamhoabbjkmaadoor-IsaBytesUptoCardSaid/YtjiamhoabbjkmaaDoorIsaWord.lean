/-
  The walks of isa.Word and isa.Take: an instruction's word, and the instruction of a word. Conditions: the table 'uses' as laid.
-/
import Derived.Test.YtjiamhoabbjkmaaDoorIsaMay
namespace Go.Proofs.YtjiamhoabbjkmaaDoor.Isa
open Go.RowKit

set_option maxHeartbeats 400000 in
theorem word_ok (op a b imm : Int) (w : World) (hT : Tab w) (h : mayB op a b imm = true) :
    Calls Tryd.prog 12 #[.agg #[.int .i64 op, .int .i64 a, .int .i64 b, .int .i64 imm]] w fun e w' => e = .returned (.tuple #[.int .u32 (wordN op a b imm), .int .i64 0]) ∧ Below w.heap.size w w' := by
  have hr : InR op a b imm := mayB_in h
  have hW := hide (word_bits hr)
  obtain ⟨h1, h2, h3, h4, h5, h6, h7, h8⟩ := hr
  have hM := Lib.hid h
  have hT' := Lib.hid hT
  clear h hT
  go_enter Tryd.func12, Tryd.ntmps12
  go_wp2_with fail
  refine (may_true (hT'.out.below ((Below.refl _ _).alloc (Nat.le_refl _) _)) hM.out).mono ?_
  rintro e w1 ⟨rfl, hb⟩
  obtain ⟨hc, hf⟩ := bcell hb
  go_wp2
  go_ret2
  exact ⟨by simp [hW.out], below_call hb⟩

set_option maxHeartbeats 400000 in
theorem word_no (op a b imm : Int) (w : World) (hT : Tab w) (h : mayB op a b imm = false) :
    Calls Tryd.prog 12 #[.agg #[.int .i64 op, .int .i64 a, .int .i64 b, .int .i64 imm]] w fun e w' => e = .returned (.tuple #[.int .u32 0, .int .i64 1]) ∧ Below w.heap.size w w' := by
  have hM := Lib.hid h
  have hT' := Lib.hid hT
  clear h hT
  go_enter Tryd.func12, Tryd.ntmps12
  go_wp2_with fail
  refine (may_false (hT'.out.below ((Below.refl _ _).alloc (Nat.le_refl _) _)) hM.out).mono ?_
  rintro e w1 ⟨rfl, hb⟩
  obtain ⟨hc, hf⟩ := bcell hb
  go_wp2
  go_ret2
  exact ⟨rfl, below_call hb⟩

set_option maxHeartbeats 400000 in
theorem take_ok (x : Int) (w : World) (hT : Tab w) (h0 : 0 ≤ x) (h1 : x < 4294967296) (h : isW x = true) :
    Calls Tryd.prog 14 #[.int .u32 x] w fun e w' => e = .returned (.tuple #[.agg #[.int .i64 (tOp x), .int .i64 (tA x), .int .i64 (tB x), .int .i64 (tI x)], .int .i64 0]) ∧ Below w.heap.size w w' := by
  have hM := Lib.hid h
  have hT' := Lib.hid hT
  clear h hT
  obtain ⟨⟨e1, e2, e3, e4⟩, b1, b2, b3, b4, b5, b6, b7, b8⟩ := t_eqs x h0 h1
  go_enter Tryd.func14, Tryd.ntmps14
  go_wp2_with fail
  refine (may_true (hT'.out.below ((below_new _ _).alloc (by simp) _)) hM.out).mono ?_
  rintro e w1 ⟨rfl, hb⟩
  have hs := hb.size
  simp only [World.size_alloc] at hs
  obtain ⟨hc, hf⟩ := bcell hb
  have z0 : w1.cell? ⟨w.heap.size, 0, none⟩ = some (.int .i64 0) := (hc _ _ (by simp; omega)).trans (by simp [go_sem])
  have z1 : w1.cell? ⟨w.heap.size, 1, none⟩ = some (.int .i64 0) := (hc _ _ (by simp; omega)).trans (by simp [go_sem])
  have z2 : w1.cell? ⟨w.heap.size, 2, none⟩ = some (.int .i64 0) := (hc _ _ (by simp; omega)).trans (by simp [go_sem])
  have z3 : w1.cell? ⟨w.heap.size, 3, none⟩ = some (.int .i64 0) := (hc _ _ (by simp; omega)).trans (by simp [go_sem])
  go_wp2
  exact bodyPost_ret (v := .tuple #[.agg #[.int .i64 (tOp x), .int .i64 (tA x), .int .i64 (tB x), .int .i64 (tI x)], .int .i64 0]) (by simp [results, Tryd.results14, go_sem, z0, z1, z2, z3]) rfl ⟨rfl, ((((below_call2 hb).setCell (by simp) _).setCell (by simp) _).setCell (by simp) _).setCell (by simp) _⟩

set_option maxHeartbeats 400000 in
theorem take_no (x : Int) (w : World) (hT : Tab w) (h0 : 0 ≤ x) (h1 : x < 4294967296) (h : isW x = false) :
    Calls Tryd.prog 14 #[.int .u32 x] w fun e w' => e = .returned (.tuple #[.agg #[.int .i64 0, .int .i64 0, .int .i64 0, .int .i64 0], .int .i64 11]) ∧ Below w.heap.size w w' := by
  have hM := Lib.hid h
  have hT' := Lib.hid hT
  clear h hT
  obtain ⟨⟨e1, e2, e3, e4⟩, b1, b2, b3, b4, b5, b6, b7, b8⟩ := t_eqs x h0 h1
  go_enter Tryd.func14, Tryd.ntmps14
  go_wp2_with fail
  refine (may_false (hT'.out.below ((below_new _ _).alloc (by simp) _)) hM.out).mono ?_
  rintro e w1 ⟨rfl, hb⟩
  have hs := hb.size
  simp only [World.size_alloc] at hs
  obtain ⟨hc, hf⟩ := bcell hb
  have z0 : w1.cell? ⟨w.heap.size, 0, none⟩ = some (.int .i64 0) := (hc _ _ (by simp; omega)).trans (by simp [go_sem])
  have z1 : w1.cell? ⟨w.heap.size, 1, none⟩ = some (.int .i64 0) := (hc _ _ (by simp; omega)).trans (by simp [go_sem])
  have z2 : w1.cell? ⟨w.heap.size, 2, none⟩ = some (.int .i64 0) := (hc _ _ (by simp; omega)).trans (by simp [go_sem])
  have z3 : w1.cell? ⟨w.heap.size, 3, none⟩ = some (.int .i64 0) := (hc _ _ (by simp; omega)).trans (by simp [go_sem])
  go_wp2
  exact bodyPost_ret (v := .tuple #[.agg #[.int .i64 0, .int .i64 0, .int .i64 0, .int .i64 0], .int .i64 11]) (by simp [results, Tryd.results14, go_sem, z0, z1, z2, z3]) rfl ⟨rfl, ((((below_call2 hb).setCell (by simp) _).setCell (by simp) _).setCell (by simp) _).setCell (by simp) _⟩
end Go.Proofs.YtjiamhoabbjkmaaDoor.Isa
