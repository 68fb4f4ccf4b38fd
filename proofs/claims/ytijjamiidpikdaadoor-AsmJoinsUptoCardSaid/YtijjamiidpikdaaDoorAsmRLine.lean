/-
  The walk of the reference's Line: an instruction's line. Conditions: none.
-/
import Derived.Test.YtijjamiidpikdaaDoorAsmRText
import Derived.Test.YtijjamiidpikdaaDoorAsmRName
import Derived.Test.YtijjamiidpikdaaDoorIsaRef
namespace Go.Proofs.YtijjamiidpikdaaDoor.Asm
open Go.RowKit Go.Proofs.YtijjamiidpikdaaDoor.Isa

theorem ret_str {x y : ByteArray} (h : x = y) : Ending.returned (.tuple #[.string x, .int .i64 0]) = Ending.returned (.tuple #[.string y, .int .i64 0]) := by rw [h]

set_option maxHeartbeats 800000 in
theorem rtext_any (n : Int) (w : World) (h0 : -99999 ≤ n) (h1 : n ≤ 99999) :
    Calls Tryd.prog 27 #[.int .i64 n] w fun e w' => e = .returned (.string ⟨(figs n).toArray⟩) ∧ Below w.heap.size w w' := by
  by_cases hn : n < 0
  · have hF : Hid (figs n = 45 :: figN n.natAbs) := by
      show _ = _
      unfold figs
      rw [if_pos hn]
    have hT := fun w => rtext_nat n.natAbs w (by omega)
    rw [show ((n.natAbs : Nat) : Int) = -n by omega] at hT
    have HT := hide hT
    have hl := figN_len5 (m := n.natAbs) (by omega)
    clear hT
    generalize figN n.natAbs = f at hF HT hl
    go_enter Tryd.func27, Tryd.ntmps27
    go_wp2_with fail
    refine (HT.out _).mono ?_
    rintro e w1 ⟨rfl, hb⟩
    have hB := hide hb
    clear hb
    go_wp2
    go_ret
    exact ⟨by rw [hF.out, ← str_cons]; rfl, hB.out⟩
  · have h := rtext_nat n.natAbs w (by omega)
    rw [show ((n.natAbs : Nat) : Int) = n by omega] at h
    have e : figs n = figN n.natAbs := by unfold figs; rw [if_neg hn]
    rw [e]
    exact h

set_option maxHeartbeats 400000 in
theorem rline_no (op a b imm : Int) (w : World) (h : mayB op a b imm = false) :
    Calls Tryd.prog 13 #[.agg #[.int .i64 op, .int .i64 a, .int .i64 b, .int .i64 imm]] w fun e w' => e = .returned (.tuple #[.string ⟨#[]⟩, .int .i64 1]) ∧ Below w.heap.size w w' := by
  have hM := Lib.hid h
  clear h
  go_enter Tryd.func13, Tryd.ntmps13
  go_wp2_with fail
  refine (rmay_false hM.out).mono ?_
  rintro e w1 ⟨rfl, hb⟩
  have hB := hide (below_call hb)
  clear hb
  go_wp2
  go_ret2
  exact ⟨rfl, hB.out⟩

theorem use_0 : ∀ n : Nat, n < 25 → 1 ≤ n → n ≤ 2 → useOf n = [97, 105] := by decide
set_option maxHeartbeats 1600000 in
theorem rline_0 (n : Nat) (a b imm : Int) (w : World) (h : mayB n a b imm = true) (hlo : 1 ≤ n) (hhi : n ≤ 2) :
    Calls Tryd.prog 13 #[.agg #[.int .i64 n, .int .i64 a, .int .i64 b, .int .i64 imm]] w fun e w' => e = .returned (.tuple #[.string ⟨(lineL n a b imm).toArray⟩, .int .i64 0]) ∧ Below w.heap.size w w' := by
  have hM := Lib.hid h
  obtain ⟨h1, h2, h3, h4, h5, h6, h7, h8⟩ := mayB_in h
  have hn1 : 1 ≤ n := by omega
  have hn24 : n ≤ 24 := by omega
  have hnl := name_len n (by omega)
  have hL : Hid (lineL n a b imm = ((nameOf n ++ 32 :: 114 :: figs a) ++ 32 :: figs imm)) := by
    show _ = _
    unfold lineL
    rw [use_0 n (by omega) hlo hhi]
    simp [part]
  have hN := hide (fun w => rname_any n hn1 hn24 w)
  have hfa := (figs_len (n := a) (by omega) (by omega)).2
  have hfb := (figs_len (n := b) (by omega) (by omega)).2
  have hfi := (figs_len (n := imm) (by omega) (by omega)).2
  have hA := hide (fun w => rtext_any a w (by omega) (by omega))
  have hBt := hide (fun w => rtext_any b w (by omega) (by omega))
  have hI := hide (fun w => rtext_any imm w (by omega) (by omega))
  have g0 : (1 : Int) ≤ (n : Int) := by omega
  have g1 : (n : Int) ≤ 2 := by omega
  have h18 : ((n : Int) != 18) = true := by rw [bne_iff_ne]; omega
  have h24 : ((n : Int) != 24) = true := by rw [bne_iff_ne]; omega
  clear h h1 h2 h3 h4 h5 h6 h7 h8
  generalize nameOf n = nm at hnl hL hN
  generalize figs a = fa at hfa hL hA
  generalize figs b = fb at hfb hL hBt
  generalize figs imm = fi at hfi hL hI
  go_enter Tryd.func13, Tryd.ntmps13
  go_wp2_with fail
  refine (rmay_true hM.out).mono ?_
  rintro e w1 ⟨rfl, hb⟩
  obtain ⟨hc, hf⟩ := bcell hb
  have hB := hide (below_call hb)
  have hs := hb.size
  simp only [World.size_alloc] at hs
  have x0 : w1.cell? ⟨w.heap.size, 0, none⟩ = some (.int .i64 n) := (hc _ _ (by simp)).trans (by go_simp)
  have x1 : w1.cell? ⟨w.heap.size, 1, none⟩ = some (.int .i64 a) := (hc _ _ (by simp)).trans (by go_simp)
  have x2 : w1.cell? ⟨w.heap.size, 2, none⟩ = some (.int .i64 b) := (hc _ _ (by simp)).trans (by go_simp)
  have x3 : w1.cell? ⟨w.heap.size, 3, none⟩ = some (.int .i64 imm) := (hc _ _ (by simp)).trans (by go_simp)
  clear hb hc hf
  go_wp2_with fail
  refine (hN.out _).mono ?_
  rintro e w2 ⟨rfl, hb⟩
  have x0 := (hb.cell (p := ⟨w.heap.size, 0, none⟩) hs).trans x0
  have x1 := (hb.cell (p := ⟨w.heap.size, 1, none⟩) hs).trans x1
  have x2 := (hb.cell (p := ⟨w.heap.size, 2, none⟩) hs).trans x2
  have x3 := (hb.cell (p := ⟨w.heap.size, 3, none⟩) hs).trans x3
  have hB := hide (hB.out.trans (hb.mono hB.out.size))
  have hs := Nat.le_trans hs hb.size
  clear hb
  go_wp2_with fail
  refine (hA.out _).mono ?_
  rintro e w3 ⟨rfl, hb⟩
  have x0 := (hb.cell (p := ⟨w.heap.size, 0, none⟩) hs).trans x0
  have x1 := (hb.cell (p := ⟨w.heap.size, 1, none⟩) hs).trans x1
  have x2 := (hb.cell (p := ⟨w.heap.size, 2, none⟩) hs).trans x2
  have x3 := (hb.cell (p := ⟨w.heap.size, 3, none⟩) hs).trans x3
  have hB := hide (hB.out.trans (hb.mono hB.out.size))
  have hs := Nat.le_trans hs hb.size
  clear hb
  go_wp2_with fail
  refine (hI.out _).mono ?_
  rintro e w4 ⟨rfl, hb⟩
  have x0 := (hb.cell (p := ⟨w.heap.size, 0, none⟩) hs).trans x0
  have x1 := (hb.cell (p := ⟨w.heap.size, 1, none⟩) hs).trans x1
  have x2 := (hb.cell (p := ⟨w.heap.size, 2, none⟩) hs).trans x2
  have x3 := (hb.cell (p := ⟨w.heap.size, 3, none⟩) hs).trans x3
  have hB := hide (hB.out.trans (hb.mono hB.out.size))
  have hs := Nat.le_trans hs hb.size
  clear hb
  go_wp2
  go_ret2
  exact ⟨by rw [hL.out]; exact ret_str (by apply ByteArray.ext; apply Array.toList_inj.1; simp), hB.out⟩

theorem use_1 : ∀ n : Nat, n < 25 → 3 ≤ n → n ≤ 12 → useOf n = [97, 98] := by decide
set_option maxHeartbeats 1600000 in
theorem rline_1 (n : Nat) (a b imm : Int) (w : World) (h : mayB n a b imm = true) (hlo : 3 ≤ n) (hhi : n ≤ 12) :
    Calls Tryd.prog 13 #[.agg #[.int .i64 n, .int .i64 a, .int .i64 b, .int .i64 imm]] w fun e w' => e = .returned (.tuple #[.string ⟨(lineL n a b imm).toArray⟩, .int .i64 0]) ∧ Below w.heap.size w w' := by
  have hM := Lib.hid h
  obtain ⟨h1, h2, h3, h4, h5, h6, h7, h8⟩ := mayB_in h
  have hn1 : 1 ≤ n := by omega
  have hn24 : n ≤ 24 := by omega
  have hnl := name_len n (by omega)
  have hL : Hid (lineL n a b imm = ((nameOf n ++ 32 :: 114 :: figs a) ++ 32 :: 114 :: figs b)) := by
    show _ = _
    unfold lineL
    rw [use_1 n (by omega) hlo hhi]
    simp [part]
  have hN := hide (fun w => rname_any n hn1 hn24 w)
  have hfa := (figs_len (n := a) (by omega) (by omega)).2
  have hfb := (figs_len (n := b) (by omega) (by omega)).2
  have hfi := (figs_len (n := imm) (by omega) (by omega)).2
  have hA := hide (fun w => rtext_any a w (by omega) (by omega))
  have hBt := hide (fun w => rtext_any b w (by omega) (by omega))
  have hI := hide (fun w => rtext_any imm w (by omega) (by omega))
  have g0 : (3 : Int) ≤ (n : Int) := by omega
  have g1 : (n : Int) ≤ 12 := by omega
  have h18 : ((n : Int) != 18) = true := by rw [bne_iff_ne]; omega
  have h24 : ((n : Int) != 24) = true := by rw [bne_iff_ne]; omega
  clear h h1 h2 h3 h4 h5 h6 h7 h8
  generalize nameOf n = nm at hnl hL hN
  generalize figs a = fa at hfa hL hA
  generalize figs b = fb at hfb hL hBt
  generalize figs imm = fi at hfi hL hI
  go_enter Tryd.func13, Tryd.ntmps13
  go_wp2_with fail
  refine (rmay_true hM.out).mono ?_
  rintro e w1 ⟨rfl, hb⟩
  obtain ⟨hc, hf⟩ := bcell hb
  have hB := hide (below_call hb)
  have hs := hb.size
  simp only [World.size_alloc] at hs
  have x0 : w1.cell? ⟨w.heap.size, 0, none⟩ = some (.int .i64 n) := (hc _ _ (by simp)).trans (by go_simp)
  have x1 : w1.cell? ⟨w.heap.size, 1, none⟩ = some (.int .i64 a) := (hc _ _ (by simp)).trans (by go_simp)
  have x2 : w1.cell? ⟨w.heap.size, 2, none⟩ = some (.int .i64 b) := (hc _ _ (by simp)).trans (by go_simp)
  have x3 : w1.cell? ⟨w.heap.size, 3, none⟩ = some (.int .i64 imm) := (hc _ _ (by simp)).trans (by go_simp)
  clear hb hc hf
  go_wp2_with fail
  refine (hN.out _).mono ?_
  rintro e w2 ⟨rfl, hb⟩
  have x0 := (hb.cell (p := ⟨w.heap.size, 0, none⟩) hs).trans x0
  have x1 := (hb.cell (p := ⟨w.heap.size, 1, none⟩) hs).trans x1
  have x2 := (hb.cell (p := ⟨w.heap.size, 2, none⟩) hs).trans x2
  have x3 := (hb.cell (p := ⟨w.heap.size, 3, none⟩) hs).trans x3
  have hB := hide (hB.out.trans (hb.mono hB.out.size))
  have hs := Nat.le_trans hs hb.size
  clear hb
  go_wp2_with fail
  refine (hA.out _).mono ?_
  rintro e w3 ⟨rfl, hb⟩
  have x0 := (hb.cell (p := ⟨w.heap.size, 0, none⟩) hs).trans x0
  have x1 := (hb.cell (p := ⟨w.heap.size, 1, none⟩) hs).trans x1
  have x2 := (hb.cell (p := ⟨w.heap.size, 2, none⟩) hs).trans x2
  have x3 := (hb.cell (p := ⟨w.heap.size, 3, none⟩) hs).trans x3
  have hB := hide (hB.out.trans (hb.mono hB.out.size))
  have hs := Nat.le_trans hs hb.size
  clear hb
  go_wp2_with fail
  refine (hBt.out _).mono ?_
  rintro e w4 ⟨rfl, hb⟩
  have x0 := (hb.cell (p := ⟨w.heap.size, 0, none⟩) hs).trans x0
  have x1 := (hb.cell (p := ⟨w.heap.size, 1, none⟩) hs).trans x1
  have x2 := (hb.cell (p := ⟨w.heap.size, 2, none⟩) hs).trans x2
  have x3 := (hb.cell (p := ⟨w.heap.size, 3, none⟩) hs).trans x3
  have hB := hide (hB.out.trans (hb.mono hB.out.size))
  have hs := Nat.le_trans hs hb.size
  clear hb
  go_wp2
  go_ret2
  exact ⟨by rw [hL.out]; exact ret_str (by apply ByteArray.ext; apply Array.toList_inj.1; simp), hB.out⟩

theorem use_2 : ∀ n : Nat, n < 25 → 13 ≤ n → n ≤ 13 → useOf n = [97, 105] := by decide
set_option maxHeartbeats 1600000 in
theorem rline_2 (n : Nat) (a b imm : Int) (w : World) (h : mayB n a b imm = true) (hlo : 13 ≤ n) (hhi : n ≤ 13) :
    Calls Tryd.prog 13 #[.agg #[.int .i64 n, .int .i64 a, .int .i64 b, .int .i64 imm]] w fun e w' => e = .returned (.tuple #[.string ⟨(lineL n a b imm).toArray⟩, .int .i64 0]) ∧ Below w.heap.size w w' := by
  have hM := Lib.hid h
  obtain ⟨h1, h2, h3, h4, h5, h6, h7, h8⟩ := mayB_in h
  have hn1 : 1 ≤ n := by omega
  have hn24 : n ≤ 24 := by omega
  have hnl := name_len n (by omega)
  have hL : Hid (lineL n a b imm = ((nameOf n ++ 32 :: 114 :: figs a) ++ 32 :: figs imm)) := by
    show _ = _
    unfold lineL
    rw [use_2 n (by omega) hlo hhi]
    simp [part]
  have hN := hide (fun w => rname_any n hn1 hn24 w)
  have hfa := (figs_len (n := a) (by omega) (by omega)).2
  have hfb := (figs_len (n := b) (by omega) (by omega)).2
  have hfi := (figs_len (n := imm) (by omega) (by omega)).2
  have hA := hide (fun w => rtext_any a w (by omega) (by omega))
  have hBt := hide (fun w => rtext_any b w (by omega) (by omega))
  have hI := hide (fun w => rtext_any imm w (by omega) (by omega))
  have g0 : (13 : Int) ≤ (n : Int) := by omega
  have g1 : (n : Int) ≤ 13 := by omega
  have h18 : ((n : Int) != 18) = true := by rw [bne_iff_ne]; omega
  have h24 : ((n : Int) != 24) = true := by rw [bne_iff_ne]; omega
  clear h h1 h2 h3 h4 h5 h6 h7 h8
  generalize nameOf n = nm at hnl hL hN
  generalize figs a = fa at hfa hL hA
  generalize figs b = fb at hfb hL hBt
  generalize figs imm = fi at hfi hL hI
  obtain rfl : n = 13 := by omega
  clear g0 g1 h18 h24
  go_enter Tryd.func13, Tryd.ntmps13
  go_wp2_with fail
  refine (rmay_true hM.out).mono ?_
  rintro e w1 ⟨rfl, hb⟩
  obtain ⟨hc, hf⟩ := bcell hb
  have hB := hide (below_call hb)
  have hs := hb.size
  simp only [World.size_alloc] at hs
  have x0 : w1.cell? ⟨w.heap.size, 0, none⟩ = some (.int .i64 13) := (hc _ _ (by simp)).trans (by go_simp)
  have x1 : w1.cell? ⟨w.heap.size, 1, none⟩ = some (.int .i64 a) := (hc _ _ (by simp)).trans (by go_simp)
  have x2 : w1.cell? ⟨w.heap.size, 2, none⟩ = some (.int .i64 b) := (hc _ _ (by simp)).trans (by go_simp)
  have x3 : w1.cell? ⟨w.heap.size, 3, none⟩ = some (.int .i64 imm) := (hc _ _ (by simp)).trans (by go_simp)
  clear hb hc hf
  go_wp2_with fail
  refine (hN.out _).mono ?_
  rintro e w2 ⟨rfl, hb⟩
  have x0 := (hb.cell (p := ⟨w.heap.size, 0, none⟩) hs).trans x0
  have x1 := (hb.cell (p := ⟨w.heap.size, 1, none⟩) hs).trans x1
  have x2 := (hb.cell (p := ⟨w.heap.size, 2, none⟩) hs).trans x2
  have x3 := (hb.cell (p := ⟨w.heap.size, 3, none⟩) hs).trans x3
  have hB := hide (hB.out.trans (hb.mono hB.out.size))
  have hs := Nat.le_trans hs hb.size
  clear hb
  go_wp2_with fail
  refine (hA.out _).mono ?_
  rintro e w3 ⟨rfl, hb⟩
  have x0 := (hb.cell (p := ⟨w.heap.size, 0, none⟩) hs).trans x0
  have x1 := (hb.cell (p := ⟨w.heap.size, 1, none⟩) hs).trans x1
  have x2 := (hb.cell (p := ⟨w.heap.size, 2, none⟩) hs).trans x2
  have x3 := (hb.cell (p := ⟨w.heap.size, 3, none⟩) hs).trans x3
  have hB := hide (hB.out.trans (hb.mono hB.out.size))
  have hs := Nat.le_trans hs hb.size
  clear hb
  go_wp2_with fail
  refine (hI.out _).mono ?_
  rintro e w4 ⟨rfl, hb⟩
  have x0 := (hb.cell (p := ⟨w.heap.size, 0, none⟩) hs).trans x0
  have x1 := (hb.cell (p := ⟨w.heap.size, 1, none⟩) hs).trans x1
  have x2 := (hb.cell (p := ⟨w.heap.size, 2, none⟩) hs).trans x2
  have x3 := (hb.cell (p := ⟨w.heap.size, 3, none⟩) hs).trans x3
  have hB := hide (hB.out.trans (hb.mono hB.out.size))
  have hs := Nat.le_trans hs hb.size
  clear hb
  go_wp2
  go_ret2
  exact ⟨by rw [hL.out]; exact ret_str (by apply ByteArray.ext; apply Array.toList_inj.1; simp), hB.out⟩

theorem use_3 : ∀ n : Nat, n < 25 → 14 ≤ n → n ≤ 17 → useOf n = [97, 98, 105] := by decide
set_option maxHeartbeats 1600000 in
theorem rline_3 (n : Nat) (a b imm : Int) (w : World) (h : mayB n a b imm = true) (hlo : 14 ≤ n) (hhi : n ≤ 17) :
    Calls Tryd.prog 13 #[.agg #[.int .i64 n, .int .i64 a, .int .i64 b, .int .i64 imm]] w fun e w' => e = .returned (.tuple #[.string ⟨(lineL n a b imm).toArray⟩, .int .i64 0]) ∧ Below w.heap.size w w' := by
  have hM := Lib.hid h
  obtain ⟨h1, h2, h3, h4, h5, h6, h7, h8⟩ := mayB_in h
  have hn1 : 1 ≤ n := by omega
  have hn24 : n ≤ 24 := by omega
  have hnl := name_len n (by omega)
  have hL : Hid (lineL n a b imm = (((nameOf n ++ 32 :: 114 :: figs a) ++ 32 :: 114 :: figs b) ++ 32 :: figs imm)) := by
    show _ = _
    unfold lineL
    rw [use_3 n (by omega) hlo hhi]
    simp [part]
  have hN := hide (fun w => rname_any n hn1 hn24 w)
  have hfa := (figs_len (n := a) (by omega) (by omega)).2
  have hfb := (figs_len (n := b) (by omega) (by omega)).2
  have hfi := (figs_len (n := imm) (by omega) (by omega)).2
  have hA := hide (fun w => rtext_any a w (by omega) (by omega))
  have hBt := hide (fun w => rtext_any b w (by omega) (by omega))
  have hI := hide (fun w => rtext_any imm w (by omega) (by omega))
  have g0 : (14 : Int) ≤ (n : Int) := by omega
  have g1 : (n : Int) ≤ 17 := by omega
  have h18 : ((n : Int) != 18) = true := by rw [bne_iff_ne]; omega
  have h24 : ((n : Int) != 24) = true := by rw [bne_iff_ne]; omega
  clear h h1 h2 h3 h4 h5 h6 h7 h8
  generalize nameOf n = nm at hnl hL hN
  generalize figs a = fa at hfa hL hA
  generalize figs b = fb at hfb hL hBt
  generalize figs imm = fi at hfi hL hI
  go_enter Tryd.func13, Tryd.ntmps13
  go_wp2_with fail
  refine (rmay_true hM.out).mono ?_
  rintro e w1 ⟨rfl, hb⟩
  obtain ⟨hc, hf⟩ := bcell hb
  have hB := hide (below_call hb)
  have hs := hb.size
  simp only [World.size_alloc] at hs
  have x0 : w1.cell? ⟨w.heap.size, 0, none⟩ = some (.int .i64 n) := (hc _ _ (by simp)).trans (by go_simp)
  have x1 : w1.cell? ⟨w.heap.size, 1, none⟩ = some (.int .i64 a) := (hc _ _ (by simp)).trans (by go_simp)
  have x2 : w1.cell? ⟨w.heap.size, 2, none⟩ = some (.int .i64 b) := (hc _ _ (by simp)).trans (by go_simp)
  have x3 : w1.cell? ⟨w.heap.size, 3, none⟩ = some (.int .i64 imm) := (hc _ _ (by simp)).trans (by go_simp)
  clear hb hc hf
  go_wp2_with fail
  refine (hN.out _).mono ?_
  rintro e w2 ⟨rfl, hb⟩
  have x0 := (hb.cell (p := ⟨w.heap.size, 0, none⟩) hs).trans x0
  have x1 := (hb.cell (p := ⟨w.heap.size, 1, none⟩) hs).trans x1
  have x2 := (hb.cell (p := ⟨w.heap.size, 2, none⟩) hs).trans x2
  have x3 := (hb.cell (p := ⟨w.heap.size, 3, none⟩) hs).trans x3
  have hB := hide (hB.out.trans (hb.mono hB.out.size))
  have hs := Nat.le_trans hs hb.size
  clear hb
  go_wp2_with fail
  refine (hA.out _).mono ?_
  rintro e w3 ⟨rfl, hb⟩
  have x0 := (hb.cell (p := ⟨w.heap.size, 0, none⟩) hs).trans x0
  have x1 := (hb.cell (p := ⟨w.heap.size, 1, none⟩) hs).trans x1
  have x2 := (hb.cell (p := ⟨w.heap.size, 2, none⟩) hs).trans x2
  have x3 := (hb.cell (p := ⟨w.heap.size, 3, none⟩) hs).trans x3
  have hB := hide (hB.out.trans (hb.mono hB.out.size))
  have hs := Nat.le_trans hs hb.size
  clear hb
  go_wp2_with fail
  refine (hBt.out _).mono ?_
  rintro e w4 ⟨rfl, hb⟩
  have x0 := (hb.cell (p := ⟨w.heap.size, 0, none⟩) hs).trans x0
  have x1 := (hb.cell (p := ⟨w.heap.size, 1, none⟩) hs).trans x1
  have x2 := (hb.cell (p := ⟨w.heap.size, 2, none⟩) hs).trans x2
  have x3 := (hb.cell (p := ⟨w.heap.size, 3, none⟩) hs).trans x3
  have hB := hide (hB.out.trans (hb.mono hB.out.size))
  have hs := Nat.le_trans hs hb.size
  clear hb
  go_wp2_with fail
  refine (hI.out _).mono ?_
  rintro e w5 ⟨rfl, hb⟩
  have x0 := (hb.cell (p := ⟨w.heap.size, 0, none⟩) hs).trans x0
  have x1 := (hb.cell (p := ⟨w.heap.size, 1, none⟩) hs).trans x1
  have x2 := (hb.cell (p := ⟨w.heap.size, 2, none⟩) hs).trans x2
  have x3 := (hb.cell (p := ⟨w.heap.size, 3, none⟩) hs).trans x3
  have hB := hide (hB.out.trans (hb.mono hB.out.size))
  have hs := Nat.le_trans hs hb.size
  clear hb
  go_wp2
  go_ret2
  exact ⟨by rw [hL.out]; exact ret_str (by apply ByteArray.ext; apply Array.toList_inj.1; simp), hB.out⟩

theorem use_4 : ∀ n : Nat, n < 25 → 18 ≤ n → n ≤ 18 → useOf n = [105] := by decide
set_option maxHeartbeats 1600000 in
theorem rline_4 (n : Nat) (a b imm : Int) (w : World) (h : mayB n a b imm = true) (hlo : 18 ≤ n) (hhi : n ≤ 18) :
    Calls Tryd.prog 13 #[.agg #[.int .i64 n, .int .i64 a, .int .i64 b, .int .i64 imm]] w fun e w' => e = .returned (.tuple #[.string ⟨(lineL n a b imm).toArray⟩, .int .i64 0]) ∧ Below w.heap.size w w' := by
  have hM := Lib.hid h
  obtain ⟨h1, h2, h3, h4, h5, h6, h7, h8⟩ := mayB_in h
  have hn1 : 1 ≤ n := by omega
  have hn24 : n ≤ 24 := by omega
  have hnl := name_len n (by omega)
  have hL : Hid (lineL n a b imm = (nameOf n ++ 32 :: figs imm)) := by
    show _ = _
    unfold lineL
    rw [use_4 n (by omega) hlo hhi]
    simp [part]
  have hN := hide (fun w => rname_any n hn1 hn24 w)
  have hfa := (figs_len (n := a) (by omega) (by omega)).2
  have hfb := (figs_len (n := b) (by omega) (by omega)).2
  have hfi := (figs_len (n := imm) (by omega) (by omega)).2
  have hA := hide (fun w => rtext_any a w (by omega) (by omega))
  have hBt := hide (fun w => rtext_any b w (by omega) (by omega))
  have hI := hide (fun w => rtext_any imm w (by omega) (by omega))
  have g0 : (18 : Int) ≤ (n : Int) := by omega
  have g1 : (n : Int) ≤ 18 := by omega
  have h18 : ((n : Int) != 18) = false := by rw [bne_eq_false_iff_eq]; omega
  have h24 : ((n : Int) != 24) = true := by rw [bne_iff_ne]; omega
  clear h h1 h2 h3 h4 h5 h6 h7 h8
  generalize nameOf n = nm at hnl hL hN
  generalize figs a = fa at hfa hL hA
  generalize figs b = fb at hfb hL hBt
  generalize figs imm = fi at hfi hL hI
  obtain rfl : n = 18 := by omega
  clear g0 g1 h18 h24
  go_enter Tryd.func13, Tryd.ntmps13
  go_wp2_with fail
  refine (rmay_true hM.out).mono ?_
  rintro e w1 ⟨rfl, hb⟩
  obtain ⟨hc, hf⟩ := bcell hb
  have hB := hide (below_call hb)
  have hs := hb.size
  simp only [World.size_alloc] at hs
  have x0 : w1.cell? ⟨w.heap.size, 0, none⟩ = some (.int .i64 18) := (hc _ _ (by simp)).trans (by go_simp)
  have x1 : w1.cell? ⟨w.heap.size, 1, none⟩ = some (.int .i64 a) := (hc _ _ (by simp)).trans (by go_simp)
  have x2 : w1.cell? ⟨w.heap.size, 2, none⟩ = some (.int .i64 b) := (hc _ _ (by simp)).trans (by go_simp)
  have x3 : w1.cell? ⟨w.heap.size, 3, none⟩ = some (.int .i64 imm) := (hc _ _ (by simp)).trans (by go_simp)
  clear hb hc hf
  go_wp2_with fail
  refine (hN.out _).mono ?_
  rintro e w2 ⟨rfl, hb⟩
  have x0 := (hb.cell (p := ⟨w.heap.size, 0, none⟩) hs).trans x0
  have x1 := (hb.cell (p := ⟨w.heap.size, 1, none⟩) hs).trans x1
  have x2 := (hb.cell (p := ⟨w.heap.size, 2, none⟩) hs).trans x2
  have x3 := (hb.cell (p := ⟨w.heap.size, 3, none⟩) hs).trans x3
  have hB := hide (hB.out.trans (hb.mono hB.out.size))
  have hs := Nat.le_trans hs hb.size
  clear hb
  go_wp2_with fail
  refine (hI.out _).mono ?_
  rintro e w3 ⟨rfl, hb⟩
  have x0 := (hb.cell (p := ⟨w.heap.size, 0, none⟩) hs).trans x0
  have x1 := (hb.cell (p := ⟨w.heap.size, 1, none⟩) hs).trans x1
  have x2 := (hb.cell (p := ⟨w.heap.size, 2, none⟩) hs).trans x2
  have x3 := (hb.cell (p := ⟨w.heap.size, 3, none⟩) hs).trans x3
  have hB := hide (hB.out.trans (hb.mono hB.out.size))
  have hs := Nat.le_trans hs hb.size
  clear hb
  go_wp2
  go_ret2
  exact ⟨by rw [hL.out]; exact ret_str (by apply ByteArray.ext; apply Array.toList_inj.1; simp), hB.out⟩

theorem use_5 : ∀ n : Nat, n < 25 → 19 ≤ n → n ≤ 19 → useOf n = [97, 105] := by decide
set_option maxHeartbeats 1600000 in
theorem rline_5 (n : Nat) (a b imm : Int) (w : World) (h : mayB n a b imm = true) (hlo : 19 ≤ n) (hhi : n ≤ 19) :
    Calls Tryd.prog 13 #[.agg #[.int .i64 n, .int .i64 a, .int .i64 b, .int .i64 imm]] w fun e w' => e = .returned (.tuple #[.string ⟨(lineL n a b imm).toArray⟩, .int .i64 0]) ∧ Below w.heap.size w w' := by
  have hM := Lib.hid h
  obtain ⟨h1, h2, h3, h4, h5, h6, h7, h8⟩ := mayB_in h
  have hn1 : 1 ≤ n := by omega
  have hn24 : n ≤ 24 := by omega
  have hnl := name_len n (by omega)
  have hL : Hid (lineL n a b imm = ((nameOf n ++ 32 :: 114 :: figs a) ++ 32 :: figs imm)) := by
    show _ = _
    unfold lineL
    rw [use_5 n (by omega) hlo hhi]
    simp [part]
  have hN := hide (fun w => rname_any n hn1 hn24 w)
  have hfa := (figs_len (n := a) (by omega) (by omega)).2
  have hfb := (figs_len (n := b) (by omega) (by omega)).2
  have hfi := (figs_len (n := imm) (by omega) (by omega)).2
  have hA := hide (fun w => rtext_any a w (by omega) (by omega))
  have hBt := hide (fun w => rtext_any b w (by omega) (by omega))
  have hI := hide (fun w => rtext_any imm w (by omega) (by omega))
  have g0 : (19 : Int) ≤ (n : Int) := by omega
  have g1 : (n : Int) ≤ 19 := by omega
  have h18 : ((n : Int) != 18) = true := by rw [bne_iff_ne]; omega
  have h24 : ((n : Int) != 24) = true := by rw [bne_iff_ne]; omega
  clear h h1 h2 h3 h4 h5 h6 h7 h8
  generalize nameOf n = nm at hnl hL hN
  generalize figs a = fa at hfa hL hA
  generalize figs b = fb at hfb hL hBt
  generalize figs imm = fi at hfi hL hI
  obtain rfl : n = 19 := by omega
  clear g0 g1 h18 h24
  go_enter Tryd.func13, Tryd.ntmps13
  go_wp2_with fail
  refine (rmay_true hM.out).mono ?_
  rintro e w1 ⟨rfl, hb⟩
  obtain ⟨hc, hf⟩ := bcell hb
  have hB := hide (below_call hb)
  have hs := hb.size
  simp only [World.size_alloc] at hs
  have x0 : w1.cell? ⟨w.heap.size, 0, none⟩ = some (.int .i64 19) := (hc _ _ (by simp)).trans (by go_simp)
  have x1 : w1.cell? ⟨w.heap.size, 1, none⟩ = some (.int .i64 a) := (hc _ _ (by simp)).trans (by go_simp)
  have x2 : w1.cell? ⟨w.heap.size, 2, none⟩ = some (.int .i64 b) := (hc _ _ (by simp)).trans (by go_simp)
  have x3 : w1.cell? ⟨w.heap.size, 3, none⟩ = some (.int .i64 imm) := (hc _ _ (by simp)).trans (by go_simp)
  clear hb hc hf
  go_wp2_with fail
  refine (hN.out _).mono ?_
  rintro e w2 ⟨rfl, hb⟩
  have x0 := (hb.cell (p := ⟨w.heap.size, 0, none⟩) hs).trans x0
  have x1 := (hb.cell (p := ⟨w.heap.size, 1, none⟩) hs).trans x1
  have x2 := (hb.cell (p := ⟨w.heap.size, 2, none⟩) hs).trans x2
  have x3 := (hb.cell (p := ⟨w.heap.size, 3, none⟩) hs).trans x3
  have hB := hide (hB.out.trans (hb.mono hB.out.size))
  have hs := Nat.le_trans hs hb.size
  clear hb
  go_wp2_with fail
  refine (hA.out _).mono ?_
  rintro e w3 ⟨rfl, hb⟩
  have x0 := (hb.cell (p := ⟨w.heap.size, 0, none⟩) hs).trans x0
  have x1 := (hb.cell (p := ⟨w.heap.size, 1, none⟩) hs).trans x1
  have x2 := (hb.cell (p := ⟨w.heap.size, 2, none⟩) hs).trans x2
  have x3 := (hb.cell (p := ⟨w.heap.size, 3, none⟩) hs).trans x3
  have hB := hide (hB.out.trans (hb.mono hB.out.size))
  have hs := Nat.le_trans hs hb.size
  clear hb
  go_wp2_with fail
  refine (hI.out _).mono ?_
  rintro e w4 ⟨rfl, hb⟩
  have x0 := (hb.cell (p := ⟨w.heap.size, 0, none⟩) hs).trans x0
  have x1 := (hb.cell (p := ⟨w.heap.size, 1, none⟩) hs).trans x1
  have x2 := (hb.cell (p := ⟨w.heap.size, 2, none⟩) hs).trans x2
  have x3 := (hb.cell (p := ⟨w.heap.size, 3, none⟩) hs).trans x3
  have hB := hide (hB.out.trans (hb.mono hB.out.size))
  have hs := Nat.le_trans hs hb.size
  clear hb
  go_wp2
  go_ret2
  exact ⟨by rw [hL.out]; exact ret_str (by apply ByteArray.ext; apply Array.toList_inj.1; simp), hB.out⟩

theorem use_6 : ∀ n : Nat, n < 25 → 20 ≤ n → n ≤ 20 → useOf n = [97] := by decide
set_option maxHeartbeats 1600000 in
theorem rline_6 (n : Nat) (a b imm : Int) (w : World) (h : mayB n a b imm = true) (hlo : 20 ≤ n) (hhi : n ≤ 20) :
    Calls Tryd.prog 13 #[.agg #[.int .i64 n, .int .i64 a, .int .i64 b, .int .i64 imm]] w fun e w' => e = .returned (.tuple #[.string ⟨(lineL n a b imm).toArray⟩, .int .i64 0]) ∧ Below w.heap.size w w' := by
  have hM := Lib.hid h
  obtain ⟨h1, h2, h3, h4, h5, h6, h7, h8⟩ := mayB_in h
  have hn1 : 1 ≤ n := by omega
  have hn24 : n ≤ 24 := by omega
  have hnl := name_len n (by omega)
  have hL : Hid (lineL n a b imm = (nameOf n ++ 32 :: 114 :: figs a)) := by
    show _ = _
    unfold lineL
    rw [use_6 n (by omega) hlo hhi]
    simp [part]
  have hN := hide (fun w => rname_any n hn1 hn24 w)
  have hfa := (figs_len (n := a) (by omega) (by omega)).2
  have hfb := (figs_len (n := b) (by omega) (by omega)).2
  have hfi := (figs_len (n := imm) (by omega) (by omega)).2
  have hA := hide (fun w => rtext_any a w (by omega) (by omega))
  have hBt := hide (fun w => rtext_any b w (by omega) (by omega))
  have hI := hide (fun w => rtext_any imm w (by omega) (by omega))
  have g0 : (20 : Int) ≤ (n : Int) := by omega
  have g1 : (n : Int) ≤ 20 := by omega
  have h18 : ((n : Int) != 18) = true := by rw [bne_iff_ne]; omega
  have h24 : ((n : Int) != 24) = true := by rw [bne_iff_ne]; omega
  clear h h1 h2 h3 h4 h5 h6 h7 h8
  generalize nameOf n = nm at hnl hL hN
  generalize figs a = fa at hfa hL hA
  generalize figs b = fb at hfb hL hBt
  generalize figs imm = fi at hfi hL hI
  obtain rfl : n = 20 := by omega
  clear g0 g1 h18 h24
  go_enter Tryd.func13, Tryd.ntmps13
  go_wp2_with fail
  refine (rmay_true hM.out).mono ?_
  rintro e w1 ⟨rfl, hb⟩
  obtain ⟨hc, hf⟩ := bcell hb
  have hB := hide (below_call hb)
  have hs := hb.size
  simp only [World.size_alloc] at hs
  have x0 : w1.cell? ⟨w.heap.size, 0, none⟩ = some (.int .i64 20) := (hc _ _ (by simp)).trans (by go_simp)
  have x1 : w1.cell? ⟨w.heap.size, 1, none⟩ = some (.int .i64 a) := (hc _ _ (by simp)).trans (by go_simp)
  have x2 : w1.cell? ⟨w.heap.size, 2, none⟩ = some (.int .i64 b) := (hc _ _ (by simp)).trans (by go_simp)
  have x3 : w1.cell? ⟨w.heap.size, 3, none⟩ = some (.int .i64 imm) := (hc _ _ (by simp)).trans (by go_simp)
  clear hb hc hf
  go_wp2_with fail
  refine (hN.out _).mono ?_
  rintro e w2 ⟨rfl, hb⟩
  have x0 := (hb.cell (p := ⟨w.heap.size, 0, none⟩) hs).trans x0
  have x1 := (hb.cell (p := ⟨w.heap.size, 1, none⟩) hs).trans x1
  have x2 := (hb.cell (p := ⟨w.heap.size, 2, none⟩) hs).trans x2
  have x3 := (hb.cell (p := ⟨w.heap.size, 3, none⟩) hs).trans x3
  have hB := hide (hB.out.trans (hb.mono hB.out.size))
  have hs := Nat.le_trans hs hb.size
  clear hb
  go_wp2_with fail
  refine (hA.out _).mono ?_
  rintro e w3 ⟨rfl, hb⟩
  have x0 := (hb.cell (p := ⟨w.heap.size, 0, none⟩) hs).trans x0
  have x1 := (hb.cell (p := ⟨w.heap.size, 1, none⟩) hs).trans x1
  have x2 := (hb.cell (p := ⟨w.heap.size, 2, none⟩) hs).trans x2
  have x3 := (hb.cell (p := ⟨w.heap.size, 3, none⟩) hs).trans x3
  have hB := hide (hB.out.trans (hb.mono hB.out.size))
  have hs := Nat.le_trans hs hb.size
  clear hb
  go_wp2
  go_ret2
  exact ⟨by rw [hL.out]; exact ret_str (by apply ByteArray.ext; apply Array.toList_inj.1; simp), hB.out⟩

theorem use_7 : ∀ n : Nat, n < 25 → 21 ≤ n → n ≤ 23 → useOf n = [97, 98, 105] := by decide
set_option maxHeartbeats 1600000 in
theorem rline_7 (n : Nat) (a b imm : Int) (w : World) (h : mayB n a b imm = true) (hlo : 21 ≤ n) (hhi : n ≤ 23) :
    Calls Tryd.prog 13 #[.agg #[.int .i64 n, .int .i64 a, .int .i64 b, .int .i64 imm]] w fun e w' => e = .returned (.tuple #[.string ⟨(lineL n a b imm).toArray⟩, .int .i64 0]) ∧ Below w.heap.size w w' := by
  have hM := Lib.hid h
  obtain ⟨h1, h2, h3, h4, h5, h6, h7, h8⟩ := mayB_in h
  have hn1 : 1 ≤ n := by omega
  have hn24 : n ≤ 24 := by omega
  have hnl := name_len n (by omega)
  have hL : Hid (lineL n a b imm = (((nameOf n ++ 32 :: 114 :: figs a) ++ 32 :: 114 :: figs b) ++ 32 :: figs imm)) := by
    show _ = _
    unfold lineL
    rw [use_7 n (by omega) hlo hhi]
    simp [part]
  have hN := hide (fun w => rname_any n hn1 hn24 w)
  have hfa := (figs_len (n := a) (by omega) (by omega)).2
  have hfb := (figs_len (n := b) (by omega) (by omega)).2
  have hfi := (figs_len (n := imm) (by omega) (by omega)).2
  have hA := hide (fun w => rtext_any a w (by omega) (by omega))
  have hBt := hide (fun w => rtext_any b w (by omega) (by omega))
  have hI := hide (fun w => rtext_any imm w (by omega) (by omega))
  have g0 : (21 : Int) ≤ (n : Int) := by omega
  have g1 : (n : Int) ≤ 23 := by omega
  have h18 : ((n : Int) != 18) = true := by rw [bne_iff_ne]; omega
  have h24 : ((n : Int) != 24) = true := by rw [bne_iff_ne]; omega
  clear h h1 h2 h3 h4 h5 h6 h7 h8
  generalize nameOf n = nm at hnl hL hN
  generalize figs a = fa at hfa hL hA
  generalize figs b = fb at hfb hL hBt
  generalize figs imm = fi at hfi hL hI
  go_enter Tryd.func13, Tryd.ntmps13
  go_wp2_with fail
  refine (rmay_true hM.out).mono ?_
  rintro e w1 ⟨rfl, hb⟩
  obtain ⟨hc, hf⟩ := bcell hb
  have hB := hide (below_call hb)
  have hs := hb.size
  simp only [World.size_alloc] at hs
  have x0 : w1.cell? ⟨w.heap.size, 0, none⟩ = some (.int .i64 n) := (hc _ _ (by simp)).trans (by go_simp)
  have x1 : w1.cell? ⟨w.heap.size, 1, none⟩ = some (.int .i64 a) := (hc _ _ (by simp)).trans (by go_simp)
  have x2 : w1.cell? ⟨w.heap.size, 2, none⟩ = some (.int .i64 b) := (hc _ _ (by simp)).trans (by go_simp)
  have x3 : w1.cell? ⟨w.heap.size, 3, none⟩ = some (.int .i64 imm) := (hc _ _ (by simp)).trans (by go_simp)
  clear hb hc hf
  go_wp2_with fail
  refine (hN.out _).mono ?_
  rintro e w2 ⟨rfl, hb⟩
  have x0 := (hb.cell (p := ⟨w.heap.size, 0, none⟩) hs).trans x0
  have x1 := (hb.cell (p := ⟨w.heap.size, 1, none⟩) hs).trans x1
  have x2 := (hb.cell (p := ⟨w.heap.size, 2, none⟩) hs).trans x2
  have x3 := (hb.cell (p := ⟨w.heap.size, 3, none⟩) hs).trans x3
  have hB := hide (hB.out.trans (hb.mono hB.out.size))
  have hs := Nat.le_trans hs hb.size
  clear hb
  go_wp2_with fail
  refine (hA.out _).mono ?_
  rintro e w3 ⟨rfl, hb⟩
  have x0 := (hb.cell (p := ⟨w.heap.size, 0, none⟩) hs).trans x0
  have x1 := (hb.cell (p := ⟨w.heap.size, 1, none⟩) hs).trans x1
  have x2 := (hb.cell (p := ⟨w.heap.size, 2, none⟩) hs).trans x2
  have x3 := (hb.cell (p := ⟨w.heap.size, 3, none⟩) hs).trans x3
  have hB := hide (hB.out.trans (hb.mono hB.out.size))
  have hs := Nat.le_trans hs hb.size
  clear hb
  go_wp2_with fail
  refine (hBt.out _).mono ?_
  rintro e w4 ⟨rfl, hb⟩
  have x0 := (hb.cell (p := ⟨w.heap.size, 0, none⟩) hs).trans x0
  have x1 := (hb.cell (p := ⟨w.heap.size, 1, none⟩) hs).trans x1
  have x2 := (hb.cell (p := ⟨w.heap.size, 2, none⟩) hs).trans x2
  have x3 := (hb.cell (p := ⟨w.heap.size, 3, none⟩) hs).trans x3
  have hB := hide (hB.out.trans (hb.mono hB.out.size))
  have hs := Nat.le_trans hs hb.size
  clear hb
  go_wp2_with fail
  refine (hI.out _).mono ?_
  rintro e w5 ⟨rfl, hb⟩
  have x0 := (hb.cell (p := ⟨w.heap.size, 0, none⟩) hs).trans x0
  have x1 := (hb.cell (p := ⟨w.heap.size, 1, none⟩) hs).trans x1
  have x2 := (hb.cell (p := ⟨w.heap.size, 2, none⟩) hs).trans x2
  have x3 := (hb.cell (p := ⟨w.heap.size, 3, none⟩) hs).trans x3
  have hB := hide (hB.out.trans (hb.mono hB.out.size))
  have hs := Nat.le_trans hs hb.size
  clear hb
  go_wp2
  go_ret2
  exact ⟨by rw [hL.out]; exact ret_str (by apply ByteArray.ext; apply Array.toList_inj.1; simp), hB.out⟩

theorem use_8 : ∀ n : Nat, n < 25 → 24 ≤ n → n ≤ 24 → useOf n = [] := by decide
set_option maxHeartbeats 1600000 in
theorem rline_8 (n : Nat) (a b imm : Int) (w : World) (h : mayB n a b imm = true) (hlo : 24 ≤ n) (hhi : n ≤ 24) :
    Calls Tryd.prog 13 #[.agg #[.int .i64 n, .int .i64 a, .int .i64 b, .int .i64 imm]] w fun e w' => e = .returned (.tuple #[.string ⟨(lineL n a b imm).toArray⟩, .int .i64 0]) ∧ Below w.heap.size w w' := by
  have hM := Lib.hid h
  obtain ⟨h1, h2, h3, h4, h5, h6, h7, h8⟩ := mayB_in h
  have hn1 : 1 ≤ n := by omega
  have hn24 : n ≤ 24 := by omega
  have hnl := name_len n (by omega)
  have hL : Hid (lineL n a b imm = nameOf n) := by
    show _ = _
    unfold lineL
    rw [use_8 n (by omega) hlo hhi]
    simp
  have hN := hide (fun w => rname_any n hn1 hn24 w)
  have hfa := (figs_len (n := a) (by omega) (by omega)).2
  have hfb := (figs_len (n := b) (by omega) (by omega)).2
  have hfi := (figs_len (n := imm) (by omega) (by omega)).2
  have hA := hide (fun w => rtext_any a w (by omega) (by omega))
  have hBt := hide (fun w => rtext_any b w (by omega) (by omega))
  have hI := hide (fun w => rtext_any imm w (by omega) (by omega))
  have g0 : (24 : Int) ≤ (n : Int) := by omega
  have g1 : (n : Int) ≤ 24 := by omega
  have h18 : ((n : Int) != 18) = true := by rw [bne_iff_ne]; omega
  have h24 : ((n : Int) != 24) = false := by rw [bne_eq_false_iff_eq]; omega
  clear h h1 h2 h3 h4 h5 h6 h7 h8
  generalize nameOf n = nm at hnl hL hN
  generalize figs a = fa at hfa hL hA
  generalize figs b = fb at hfb hL hBt
  generalize figs imm = fi at hfi hL hI
  obtain rfl : n = 24 := by omega
  clear g0 g1 h18 h24
  go_enter Tryd.func13, Tryd.ntmps13
  go_wp2_with fail
  refine (rmay_true hM.out).mono ?_
  rintro e w1 ⟨rfl, hb⟩
  obtain ⟨hc, hf⟩ := bcell hb
  have hB := hide (below_call hb)
  have hs := hb.size
  simp only [World.size_alloc] at hs
  have x0 : w1.cell? ⟨w.heap.size, 0, none⟩ = some (.int .i64 24) := (hc _ _ (by simp)).trans (by go_simp)
  have x1 : w1.cell? ⟨w.heap.size, 1, none⟩ = some (.int .i64 a) := (hc _ _ (by simp)).trans (by go_simp)
  have x2 : w1.cell? ⟨w.heap.size, 2, none⟩ = some (.int .i64 b) := (hc _ _ (by simp)).trans (by go_simp)
  have x3 : w1.cell? ⟨w.heap.size, 3, none⟩ = some (.int .i64 imm) := (hc _ _ (by simp)).trans (by go_simp)
  clear hb hc hf
  go_wp2_with fail
  refine (hN.out _).mono ?_
  rintro e w2 ⟨rfl, hb⟩
  have x0 := (hb.cell (p := ⟨w.heap.size, 0, none⟩) hs).trans x0
  have x1 := (hb.cell (p := ⟨w.heap.size, 1, none⟩) hs).trans x1
  have x2 := (hb.cell (p := ⟨w.heap.size, 2, none⟩) hs).trans x2
  have x3 := (hb.cell (p := ⟨w.heap.size, 3, none⟩) hs).trans x3
  have hB := hide (hB.out.trans (hb.mono hB.out.size))
  have hs := Nat.le_trans hs hb.size
  clear hb
  go_wp2
  go_ret2
  exact ⟨by rw [hL.out]; exact ret_str (by apply ByteArray.ext; apply Array.toList_inj.1; simp), hB.out⟩

theorem rline_ok (n : Nat) (a b imm : Int) (w : World) (h : mayB n a b imm = true) :
    Calls Tryd.prog 13 #[.agg #[.int .i64 n, .int .i64 a, .int .i64 b, .int .i64 imm]] w fun e w' => e = .returned (.tuple #[.string ⟨(lineL n a b imm).toArray⟩, .int .i64 0]) ∧ Below w.heap.size w w' := by
  obtain ⟨h1, h2, h3, h4, h5, h6, h7, h8⟩ := mayB_in h
  have hk : (1 ≤ n ∧ n ≤ 2) ∨ (3 ≤ n ∧ n ≤ 12) ∨ (13 ≤ n ∧ n ≤ 13) ∨ (14 ≤ n ∧ n ≤ 17) ∨ (18 ≤ n ∧ n ≤ 18) ∨ (19 ≤ n ∧ n ≤ 19) ∨ (20 ≤ n ∧ n ≤ 20) ∨ (21 ≤ n ∧ n ≤ 23) ∨ (24 ≤ n ∧ n ≤ 24) := by omega
  rcases hk with ⟨q0, q1⟩ | ⟨q0, q1⟩ | ⟨q0, q1⟩ | ⟨q0, q1⟩ | ⟨q0, q1⟩ | ⟨q0, q1⟩ | ⟨q0, q1⟩ | ⟨q0, q1⟩ | ⟨q0, q1⟩
  · exact rline_0 n a b imm w h q0 q1
  · exact rline_1 n a b imm w h q0 q1
  · exact rline_2 n a b imm w h q0 q1
  · exact rline_3 n a b imm w h q0 q1
  · exact rline_4 n a b imm w h q0 q1
  · exact rline_5 n a b imm w h q0 q1
  · exact rline_6 n a b imm w h q0 q1
  · exact rline_7 n a b imm w h q0 q1
  · exact rline_8 n a b imm w h q0 q1

end Go.Proofs.YtijjamiidpikdaaDoor.Asm
