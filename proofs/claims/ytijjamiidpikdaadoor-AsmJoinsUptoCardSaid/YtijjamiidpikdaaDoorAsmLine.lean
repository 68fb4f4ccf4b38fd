/-
  The walk of asm.Line: an instruction's line. Conditions: the tables isa.uses, asm.names, asm.uses as laid.
-/
import Derived.Test.YtijjamiidpikdaaDoorAsmLinePlain
import Derived.Test.YtijjamiidpikdaaDoorIsaMay
namespace Go.Proofs.YtijjamiidpikdaaDoor.Asm
open Go.RowKit Go.Proofs.YtijjamiidpikdaaDoor.Isa

/-- the three tables -/
def Tabs (w : World) : Prop := Tab w ∧ TabS 0 namesL w ∧ TabS 1 usesS w
theorem Tabs.below {w w' : World} (h : Tabs w) (hb : Below w.heap.size w w') : Tabs w' := ⟨h.1.below hb, h.2.1.below hb, h.2.2.below hb⟩

set_option maxHeartbeats 400000 in
theorem line_no (op a b imm : Int) (w : World) (hT : Tabs w) (h : mayB op a b imm = false) :
    Calls Tryd.prog 11 #[.agg #[.int .i64 op, .int .i64 a, .int .i64 b, .int .i64 imm]] w fun e w' => e = .returned (.tuple #[.string ⟨#[]⟩, .int .i64 1]) ∧ Below w.heap.size w w' := by
  have hM := Lib.hid h
  have hT' := Lib.hid hT
  clear h hT
  go_enter Tryd.func11, Tryd.ntmps11
  go_wp2_with fail
  refine (may_false (hT'.out.1.below (below_new _ _)) hM.out).mono ?_
  rintro e w1 ⟨rfl, hb⟩
  have hB := hide (below_call hb)
  clear hb
  go_wp2
  go_ret2
  exact ⟨rfl, hB.out⟩

set_option maxHeartbeats 3200000 in
theorem line_ok (n : Nat) (a b imm : Int) (w : World) (hT : Tabs w) (h : mayB n a b imm = true) :
    Calls Tryd.prog 11 #[.agg #[.int .i64 n, .int .i64 a, .int .i64 b, .int .i64 imm]] w fun e w' => e = .returned (.tuple #[.string ⟨(lineL n a b imm).toArray⟩, .int .i64 0]) ∧ Below w.heap.size w w' := by
  have hM := Lib.hid h
  have hT' := Lib.hid hT
  obtain ⟨h1, h2, h3, h4, h5, h6, h7, h8⟩ := mayB_in h
  clear h hT
  have hn25 : n < 25 := by omega
  go_enter Tryd.func11, Tryd.ntmps11
  go_wp2_with fail
  refine (may_true (hT'.out.1.below (below_new _ _)) hM.out).mono ?_
  rintro e w1 ⟨rfl, hb⟩
  obtain ⟨hc, hf⟩ := bcell hb
  have hB1 := hide (below_call hb)
  have hs1 := hb.size
  simp only [World.size_alloc] at hs1
  have x0 : w1.cell? ⟨w.heap.size, 0, none⟩ = some (.int .i64 n) := (hc _ _ (by simp)).trans (by go_simp)
  have x1 : w1.cell? ⟨w.heap.size, 1, none⟩ = some (.int .i64 a) := (hc _ _ (by simp)).trans (by go_simp)
  have x2 : w1.cell? ⟨w.heap.size, 2, none⟩ = some (.int .i64 b) := (hc _ _ (by simp)).trans (by go_simp)
  have x3 : w1.cell? ⟨w.heap.size, 3, none⟩ = some (.int .i64 imm) := (hc _ _ (by simp)).trans (by go_simp)
  have hT1 := hT'.out.below hB1.out
  have t0 : w1.cell? ⟨0, n, none⟩ = some (.string ⟨(nameOf n).toArray⟩) := hT1.2.1.2 n hn25
  have t1 : w1.cell? ⟨1, n, none⟩ = some (.string ⟨(useOf n).toArray⟩) := hT1.2.2.2 n hn25
  have hul := use_len n hn25
  have hnl := name_len n hn25
  have hL : Hid (lineL n a b imm = nameOf n ++ (useOf n).flatMap (part a b imm)) := rfl
  have hP := hide (part_len (a := a) (b := b) (imm := imm) (by omega) (by omega) (by omega) (by omega) (by omega) (by omega))
  have hfa := (figs_len (n := a) (by omega) (by omega)).2
  have hfb := (figs_len (n := b) (by omega) (by omega)).2
  have hfi := (figs_len (n := imm) (by omega) (by omega)).2
  generalize nameOf n = nm at t0 hnl hL
  generalize useOf n = us at t1 hul hL
  obtain ⟨cap, W, hcv, hcap, hcm, hrow, hbW, hWs⟩ := conv_str w1 us (by unfold maxLen; omega)
  unfold maxLen at hcm
  have hrow' := hide hrow
  have hBW := hide hbW
  have hB2 := hide (hB1.out.trans (hbW.mono (Nat.le_of_lt hs1)))
  have hs2 : w.heap.size < W.heap.size := by omega
  have hX := hide (And.intro x0 (And.intro x1 (And.intro x2 x3)))
  clear hb hc hf hrow hbW hT1
  go_wp2
  have hX1 : Hid (W.cell? ⟨w.heap.size, 1, none⟩ = some (.int .i64 a) ∧ W.cell? ⟨w.heap.size, 2, none⟩ = some (.int .i64 b) ∧ W.cell? ⟨w.heap.size, 3, none⟩ = some (.int .i64 imm)) :=
    ⟨(hBW.out.cell (p := ⟨w.heap.size, 1, none⟩) hs1).trans x1, (hBW.out.cell (p := ⟨w.heap.size, 2, none⟩) hs1).trans x2, (hBW.out.cell (p := ⟨w.heap.size, 3, none⟩) hs1).trans x3⟩
  clear x0 x1 x2 x3 t0 t1 hX hcv hT' hM
  go_loopw [4, 20] (fun v j wr => ∃ k : Nat, k ≤ us.length ∧ j = .int .i64 k ∧ v = .string ⟨(nm ++ (us.take k).flatMap (part a b imm)).toArray⟩ ∧ Hid (Below W.heap.size W wr)) (fun _ j _ => us.length - (intOf j).toNat)
  case atStart => exact ⟨0, Nat.zero_le _, rfl, by simp, Below.refl _ _⟩
  case round =>
    obtain ⟨k, hk, rfl, rfl, hB⟩ := hrel
    have hxl : (nm ++ (us.take k).flatMap (part a b imm)).length ≤ 40 := by
      have := flat_len hP.out (us.take k)
      rw [List.length_take] at this
      rw [List.length_append]
      omega
    by_cases hlt : k < us.length
    · have hk0 : (0 : Int) ≤ (k : Int) := Int.natCast_nonneg _
      have hk1 : (k : Int) < (us.length : Int) := by omega
      have hg : us[k]? = some (us[k]'hlt) := List.getElem?_eq_getElem hlt
      have hts : Hid ((us.take (k + 1)).flatMap (part a b imm) = (us.take k).flatMap (part a b imm) ++ part a b imm (us[k]'hlt)) := by
        show _ = _
        rw [List.take_add_one, hg]
        simp only [Option.toList_some, List.flatMap_append, List.flatMap_cons, List.flatMap_nil, List.append_nil]
      have r0 := (hB.out.cell (p := ⟨w1.heap.size, k, none⟩) hWs).trans (hrow'.out _ _ hg)
      generalize us[k]'hlt = u at hts r0
      clear hg
      obtain ⟨x1, x2, x3⟩ := hX1.out
      have x1 := (hB.out.cell (p := ⟨w.heap.size, 1, none⟩) hs2).trans x1
      have x2 := (hB.out.cell (p := ⟨w.heap.size, 2, none⟩) hs2).trans x2
      have x3 := (hB.out.cell (p := ⟨w.heap.size, 3, none⟩) hs2).trans x3
      have HE : Hid (nm ++ (us.take (k + 1)).flatMap (part a b imm) = (nm ++ (us.take k).flatMap (part a b imm)) ++ part a b imm u) := by
        show _ = _
        rw [hts.out, List.append_assoc]
      clear hts
      generalize nm ++ (us.take k).flatMap (part a b imm) = X at hxl HE ⊢
      by_cases h97 : u = 97
      · have HP := hide (show part a b imm u = 32 :: 114 :: figs a from by unfold part; rw [if_pos h97])
        subst h97
        go_wp2_with fail
        refine (figures_any a _ (by omega) (by omega)).mono ?_
        rintro e x ⟨rfl, hb⟩
        have hB' := hide (hB.out.trans (hb.mono hB.out.size))
        clear hb x1 x2 x3 r0
        generalize figs a = fa at hfa HP ⊢
        go_wp2
        go_roundw
        case rel => exact ⟨k + 1, by omega, by go_num, by rw [HE.out, HP.out, str_two], hB'⟩
        case measure => simp [intOf]; omega
      · have h97' : ((u.toNat : Int) == 97) = false := by
          rw [beq_eq_false_iff_ne]
          intro e
          exact h97 (UInt8.toNat_inj.1 (by simpa using (show u.toNat = 97 by omega)))
        by_cases h98 : u = 98
        · have HP := hide (show part a b imm u = 32 :: 114 :: figs b from by unfold part; rw [if_neg h97, if_pos h98])
          subst h98
          clear h97 h97'
          go_wp2_with fail
          refine (figures_any b _ (by omega) (by omega)).mono ?_
          rintro e x ⟨rfl, hb⟩
          have hB' := hide (hB.out.trans (hb.mono hB.out.size))
          clear hb x1 x2 x3 r0
          generalize figs b = fb at hfb HP ⊢
          go_wp2
          go_roundw
          case rel => exact ⟨k + 1, by omega, by go_num, by rw [HE.out, HP.out, str_two], hB'⟩
          case measure => simp [intOf]; omega
        · have h98' : ((u.toNat : Int) == 98) = false := by
            rw [beq_eq_false_iff_ne]
            intro e
            exact h98 (UInt8.toNat_inj.1 (by simpa using (show u.toNat = 98 by omega)))
          have HP := hide (show part a b imm u = 32 :: figs imm from by unfold part; rw [if_neg h97, if_neg h98])
          clear h97 h98
          go_wp2_with fail
          refine (figures_any imm _ (by omega) (by omega)).mono ?_
          rintro e x ⟨rfl, hb⟩
          have hB' := hide (hB.out.trans (hb.mono hB.out.size))
          clear hb x1 x2 x3 r0
          generalize figs imm = fi at hfi HP ⊢
          go_wp2
          go_roundw
          case rel => exact ⟨k + 1, by omega, by go_num, by rw [HE.out, HP.out, str_one], hB'⟩
          case measure => simp [intOf]; omega
    · have hkn : k = us.length := by omega
      subst hkn
      have hk1 : ¬ (us.length : Int) < (us.length : Int) := by omega
      have HLL := hide (show lineL n a b imm = nm ++ (us.take us.length).flatMap (part a b imm) from by rw [hL.out, List.take_of_length_le (Nat.le_refl _)])
      generalize nm ++ (us.take us.length).flatMap (part a b imm) = X at HLL hxl ⊢
      go_wp2
      go_ret2
      exact ⟨by rw [HLL.out]; rfl, hB2.out.trans (hB.out.mono (Nat.le_of_lt hs2))⟩

end Go.Proofs.YtijjamiidpikdaaDoor.Asm
