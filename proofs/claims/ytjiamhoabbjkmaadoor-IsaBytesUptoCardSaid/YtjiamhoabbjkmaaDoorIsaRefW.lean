/-
  The walks of the reference's Word and Take: they answer as isa's. Conditions: none.
-/
import Derived.Test.YtjiamhoabbjkmaaDoorIsaRef
namespace Go.Proofs.YtjiamhoabbjkmaaDoor.Isa
open Go.RowKit

set_option maxHeartbeats 400000 in
theorem rword_ok (op a b imm : Int) (w : World) (h : mayB op a b imm = true) :
    Calls Tryd.prog 13 #[.agg #[.int .i64 op, .int .i64 a, .int .i64 b, .int .i64 imm]] w fun e w' => e = .returned (.tuple #[.int .u32 (wordN op a b imm), .int .i64 0]) ∧ Below w.heap.size w w' := by
  have hr : InR op a b imm := mayB_in h
  obtain ⟨h1, h2, h3, h4, h5, h6, h7, h8⟩ := hr
  have hM := Lib.hid h
  clear h
  by_cases hn : imm < 0
  all_goals
    go_enter Tryd.func13, Tryd.ntmps13
    go_wp2_with fail
    refine (rmay_true hM.out).mono ?_
    rintro e w1 ⟨rfl, hb⟩
    obtain ⟨hc, hf⟩ := bcell hb
    go_wp2
    go_ret2
    exact ⟨ret_pair (by unfold wordN; simp; omega) rfl, below_call hb⟩

set_option maxHeartbeats 400000 in
theorem rword_no (op a b imm : Int) (w : World) (h : mayB op a b imm = false) :
    Calls Tryd.prog 13 #[.agg #[.int .i64 op, .int .i64 a, .int .i64 b, .int .i64 imm]] w fun e w' => e = .returned (.tuple #[.int .u32 0, .int .i64 1]) ∧ Below w.heap.size w w' := by
  have hM := Lib.hid h
  clear h
  go_enter Tryd.func13, Tryd.ntmps13
  go_wp2_with fail
  refine (rmay_false hM.out).mono ?_
  rintro e w1 ⟨rfl, hb⟩
  go_wp2
  go_ret2
  exact ⟨rfl, below_call hb⟩

set_option maxHeartbeats 800000 in
theorem rtake_ok (x : Int) (w : World) (h0 : 0 ≤ x) (h1 : x < 4294967296) (h : isW x = true) :
    Calls Tryd.prog 15 #[.int .u32 x] w fun e w' => e = .returned (.tuple #[.agg #[.int .i64 (tOp x), .int .i64 (tA x), .int .i64 (tB x), .int .i64 (tI x)], .int .i64 0]) ∧ Below w.heap.size w w' := by
  have hM := Lib.hid h
  clear h
  obtain ⟨e1, e2, e3, e4, b1, b2, b3, b4, b5, b6, b7, b8⟩ := rt_eqs x h0 h1
  by_cases hn : 32767 < x % 65536
  · have e4 := e4.1 hn
    go_enter Tryd.func15, Tryd.ntmps15
    go_wp2_with fail
    refine (rmay_true hM.out).mono ?_
    rintro e w1 ⟨rfl, hb⟩
    have hs := hb.size
    simp only [World.size_alloc] at hs
    obtain ⟨hc, hf⟩ := bcell hb
    have z0 : w1.cell? ⟨w.heap.size, 0, none⟩ = some (.int .i64 0) := (hc _ _ (by simp; omega)).trans (by simp [go_sem])
    have z1 : w1.cell? ⟨w.heap.size, 1, none⟩ = some (.int .i64 0) := (hc _ _ (by simp; omega)).trans (by simp [go_sem])
    have z2 : w1.cell? ⟨w.heap.size, 2, none⟩ = some (.int .i64 0) := (hc _ _ (by simp; omega)).trans (by simp [go_sem])
    have z3 : w1.cell? ⟨w.heap.size, 3, none⟩ = some (.int .i64 0) := (hc _ _ (by simp; omega)).trans (by simp [go_sem])
    go_wp2
    exact bodyPost_ret (v := .tuple #[.agg #[.int .i64 (tOp x), .int .i64 (tA x), .int .i64 (tB x), .int .i64 (tI x)], .int .i64 0]) (by simp [results, Tryd.results15, go_sem, z0, z1, z2, z3]) rfl ⟨rfl, ((((below_call2 hb).setCell (by simp) _).setCell (by simp) _).setCell (by simp) _).setCell (by simp) _⟩
  · have e4 := e4.2 hn
    go_enter Tryd.func15, Tryd.ntmps15
    go_wp2_with fail
    refine (rmay_true hM.out).mono ?_
    rintro e w1 ⟨rfl, hb⟩
    have hs := hb.size
    simp only [World.size_alloc] at hs
    obtain ⟨hc, hf⟩ := bcell hb
    have z0 : w1.cell? ⟨w.heap.size, 0, none⟩ = some (.int .i64 0) := (hc _ _ (by simp; omega)).trans (by simp [go_sem])
    have z1 : w1.cell? ⟨w.heap.size, 1, none⟩ = some (.int .i64 0) := (hc _ _ (by simp; omega)).trans (by simp [go_sem])
    have z2 : w1.cell? ⟨w.heap.size, 2, none⟩ = some (.int .i64 0) := (hc _ _ (by simp; omega)).trans (by simp [go_sem])
    have z3 : w1.cell? ⟨w.heap.size, 3, none⟩ = some (.int .i64 0) := (hc _ _ (by simp; omega)).trans (by simp [go_sem])
    go_wp2
    exact bodyPost_ret (v := .tuple #[.agg #[.int .i64 (tOp x), .int .i64 (tA x), .int .i64 (tB x), .int .i64 (tI x)], .int .i64 0]) (by simp [results, Tryd.results15, go_sem, z0, z1, z2, z3]) rfl ⟨rfl, ((((below_call2 hb).setCell (by simp) _).setCell (by simp) _).setCell (by simp) _).setCell (by simp) _⟩

set_option maxHeartbeats 800000 in
theorem rtake_no (x : Int) (w : World) (h0 : 0 ≤ x) (h1 : x < 4294967296) (h : isW x = false) :
    Calls Tryd.prog 15 #[.int .u32 x] w fun e w' => e = .returned (.tuple #[.agg #[.int .i64 0, .int .i64 0, .int .i64 0, .int .i64 0], .int .i64 11]) ∧ Below w.heap.size w w' := by
  have hM := Lib.hid h
  clear h
  obtain ⟨e1, e2, e3, e4, b1, b2, b3, b4, b5, b6, b7, b8⟩ := rt_eqs x h0 h1
  by_cases hn : 32767 < x % 65536
  · have e4 := e4.1 hn
    go_enter Tryd.func15, Tryd.ntmps15
    go_wp2_with fail
    refine (rmay_false hM.out).mono ?_
    rintro e w1 ⟨rfl, hb⟩
    have hs := hb.size
    simp only [World.size_alloc] at hs
    obtain ⟨hc, hf⟩ := bcell hb
    have z0 : w1.cell? ⟨w.heap.size, 0, none⟩ = some (.int .i64 0) := (hc _ _ (by simp; omega)).trans (by simp [go_sem])
    have z1 : w1.cell? ⟨w.heap.size, 1, none⟩ = some (.int .i64 0) := (hc _ _ (by simp; omega)).trans (by simp [go_sem])
    have z2 : w1.cell? ⟨w.heap.size, 2, none⟩ = some (.int .i64 0) := (hc _ _ (by simp; omega)).trans (by simp [go_sem])
    have z3 : w1.cell? ⟨w.heap.size, 3, none⟩ = some (.int .i64 0) := (hc _ _ (by simp; omega)).trans (by simp [go_sem])
    go_wp2
    exact bodyPost_ret (v := .tuple #[.agg #[.int .i64 0, .int .i64 0, .int .i64 0, .int .i64 0], .int .i64 11]) (by simp [results, Tryd.results15, go_sem, z0, z1, z2, z3]) rfl ⟨rfl, ((((below_call2 hb).setCell (by simp) _).setCell (by simp) _).setCell (by simp) _).setCell (by simp) _⟩
  · have e4 := e4.2 hn
    go_enter Tryd.func15, Tryd.ntmps15
    go_wp2_with fail
    refine (rmay_false hM.out).mono ?_
    rintro e w1 ⟨rfl, hb⟩
    have hs := hb.size
    simp only [World.size_alloc] at hs
    obtain ⟨hc, hf⟩ := bcell hb
    have z0 : w1.cell? ⟨w.heap.size, 0, none⟩ = some (.int .i64 0) := (hc _ _ (by simp; omega)).trans (by simp [go_sem])
    have z1 : w1.cell? ⟨w.heap.size, 1, none⟩ = some (.int .i64 0) := (hc _ _ (by simp; omega)).trans (by simp [go_sem])
    have z2 : w1.cell? ⟨w.heap.size, 2, none⟩ = some (.int .i64 0) := (hc _ _ (by simp; omega)).trans (by simp [go_sem])
    have z3 : w1.cell? ⟨w.heap.size, 3, none⟩ = some (.int .i64 0) := (hc _ _ (by simp; omega)).trans (by simp [go_sem])
    go_wp2
    exact bodyPost_ret (v := .tuple #[.agg #[.int .i64 0, .int .i64 0, .int .i64 0, .int .i64 0], .int .i64 11]) (by simp [results, Tryd.results15, go_sem, z0, z1, z2, z3]) rfl ⟨rfl, ((((below_call2 hb).setCell (by simp) _).setCell (by simp) _).setCell (by simp) _).setCell (by simp) _⟩

end Go.Proofs.YtjiamhoabbjkmaaDoor.Isa
