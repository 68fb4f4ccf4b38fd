/-
  The walk of AsmNumbers: a number's text tells it; no text tells two; what is no number is not told. Conditions: the three tables as laid.
-/
import Derived.Test.YtijjamiidpikdaaDoorAsmLine
import Derived.Test.YtijjamiidpikdaaDoorAsmNum
namespace Go.Proofs.YtijjamiidpikdaaDoor.Asm
open Go.RowKit Go.Proofs.YtijjamiidpikdaaDoor.Isa

theorem jmp_line (n : Int) : lineL 18 0 0 n = [106, 109, 112, 32] ++ figs n := by
  unfold lineL
  show [106, 109, 112] ++ [105].flatMap (part 0 0 n) = _
  rw [show [(105 : UInt8)].flatMap (part 0 0 n) = 32 :: figs n from by simp [part]]
  rfl
theorem ext4 (f : List UInt8) : (⟨(106 :: 109 :: 112 :: 32 :: f).toArray⟩ : ByteArray).extract 4 (f.length + 1 + 1 + 1 + 1) = ⟨f.toArray⟩ := by
  apply ByteArray.ext
  rw [ByteArray.data_extract]
  apply Array.toList_inj.1
  simp
theorem lw_line : lineL 14 7 1 (-8) = [108, 119, 32, 114, 55, 32, 114, 49, 32, 45, 56] := by
  have h7 : figs 7 = [55] := by
    show figN 7 = [55]
    rw [figN_step, show 7 / 10 = 0 from rfl, dg_zero]; rfl
  have h1 : figs 1 = [49] := by
    show figN 1 = [49]
    rw [figN_step, show 1 / 10 = 0 from rfl, dg_zero]; rfl
  have h8 : figs (-8) = [45, 56] := by
    show 45 :: figN 8 = [45, 56]
    rw [figN_step, show 8 / 10 = 0 from rfl, dg_zero]; rfl
  unfold lineL
  show [108, 119] ++ [97, 98, 105].flatMap (part 7 1 (-8)) = _
  simp [part, h7, h1, h8]

set_option maxHeartbeats 800000 in
theorem shown_any (w : World) (hT : Tabs w) : Calls Tryd.prog 10 #[] w fun e w' => e = .returned (.bool true) ∧ Below w.heap.size w w' := by
  have hT' := Lib.hid hT
  clear hT
  have hL := line_ok 14 7 1 (-8) w hT'.out (by decide)
  rw [lw_line] at hL
  have HL := Lib.hid hL
  clear hL
  go_enter Tryd.func10, Tryd.ntmps10
  go_wp2_with fail
  refine HL.out.mono ?_
  rintro e w1 ⟨rfl, hb⟩
  go_wp2
  go_ret
  exact ⟨rfl, hb⟩

set_option maxHeartbeats 1600000 in
theorem numbers_walk (n : Int) (l : List UInt8) (w : World) (hT : Tabs w) (hl : l.length ≤ maxLen) :
    Calls Tryd.prog 3 #[.int .i64 n, .string ⟨l.toArray⟩] w fun e w' => e = .returned (.bool true) ∧ Below w.heap.size w w' := by
  have hT' := Lib.hid hT
  clear hT
  have hml := hide hl
  unfold maxLen at hl
  have hkk := hide (numV_range l)
  by_cases hn : -32768 ≤ n ∧ n ≤ 32767
  · obtain ⟨n0, n1⟩ := hn
    have hM : mayB 18 0 0 n = true := decide_eq_true ⟨⟨by omega, by omega, by omega, by omega, by omega, by omega, n0, n1⟩, .inr rfl, .inr rfl, .inl rfl⟩
    have HM := hide hM
    have hfl := figs_len (n := n) (by omega) (by omega)
    obtain ⟨fl0, fl1⟩ := hfl
    have hV := hide (numV_figs (n := n) (by omega) (by omega))
    clear hM
    go_enter Tryd.func3, Tryd.ntmps3
    go_wp2_with fail
    refine (shown_any _ hT'.out).mono ?_
    rintro e w1 ⟨rfl, hb⟩
    have hB1 := hide hb
    clear hb
    go_wp2_with fail
    have hL := line_ok 18 0 0 n w1 (hT'.out.below hB1.out) HM.out
    rw [jmp_line] at hL
    have HL := hide hL
    clear hL
    refine HL.out.mono ?_
    rintro e w2 ⟨rfl, hb⟩
    have hB2 := hide (hB1.out.trans (hb.mono hB1.out.size))
    clear hb
    go_wp2_with fail
    rw [ext4]
    have hN := number_any (figs n) w2 (by unfold maxLen; omega)
    rw [hV.out] at hN
    have HN := hide hN
    clear hN
    refine HN.out.mono ?_
    rintro e w3 ⟨rfl, hb⟩
    have hB3 := hide (hB2.out.trans (hb.mono hB2.out.size))
    clear hb
    obtain ⟨k0, k1, k2⟩ := hkk.out
    cases hh : (numV l).2 with
    | true =>
      go_wp2_with fail
      refine (number_any l _ hml.out).mono ?_
      rintro e w4 ⟨rfl, hb⟩
      have hB4 := hide (hB3.out.trans (hb.mono hB3.out.size))
      clear hb
      rw [hh]
      generalize (numV l).1 = k at k0 k1
      clear hh k2
      go_wp2
      go_ret
      exact ⟨rfl, hB4.out⟩
    | false =>
      have hk := hide (k2 hh)
      go_wp2_with fail
      refine (number_any l _ hml.out).mono ?_
      rintro e w4 ⟨rfl, hb⟩
      have hB4 := hide (hB3.out.trans (hb.mono hB3.out.size))
      clear hb
      rw [hh, hk.out]
      clear hh k2 k0 k1
      go_wp2
      go_ret
      exact ⟨rfl, hB4.out⟩
  · have hn2 : n < -32768 ∨ 32767 < n := by omega
    clear hn
    rcases hn2 with hn | hn
    all_goals
      go_enter Tryd.func3, Tryd.ntmps3
      go_wp2_with fail
      refine (shown_any _ hT'.out).mono ?_
      rintro e w1 ⟨rfl, hb⟩
      have hB3 := hide hb
      clear hb
      obtain ⟨k0, k1, k2⟩ := hkk.out
      cases hh : (numV l).2 with
      | true =>
        go_wp2_with fail
        refine (number_any l _ hml.out).mono ?_
        rintro e w4 ⟨rfl, hb⟩
        have hB4 := hide (hB3.out.trans (hb.mono hB3.out.size))
        clear hb
        rw [hh]
        generalize (numV l).1 = k at k0 k1
        clear hh k2
        go_wp2
        go_ret
        exact ⟨rfl, hB4.out⟩
      | false =>
        have hk := hide (k2 hh)
        go_wp2_with fail
        refine (number_any l _ hml.out).mono ?_
        rintro e w4 ⟨rfl, hb⟩
        have hB4 := hide (hB3.out.trans (hb.mono hB3.out.size))
        clear hb
        rw [hh, hk.out]
        clear hh k2 k0 k1
        go_wp2
        go_ret
        exact ⟨rfl, hB4.out⟩

end Go.Proofs.YtijjamiidpikdaaDoor.Asm
