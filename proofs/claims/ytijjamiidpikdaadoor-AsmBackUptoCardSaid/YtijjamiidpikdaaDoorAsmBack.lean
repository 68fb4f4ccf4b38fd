/-
  The walk of AsmBack: what was printed is read as it was; what is read is printed just so. Conditions: the tables as laid; at most 2097152 bytes.
-/
import Derived.Test.YtijjamiidpikdaaDoorAsmRead
import Derived.Test.YtijjamiidpikdaaDoorAsmPrint
import Derived.Test.YtijjamiidpikdaaDoorAsmNumbers
import Derived.Test.YtijjamiidpikdaaDoorIsaSame
namespace Go.Proofs.YtijjamiidpikdaaDoor.Asm
open Go.RowKit Go.Proofs.YtijjamiidpikdaaDoor.Isa

theorem readL_len (s : List UInt8) : (readL s).length ≤ s.length := by
  unfold readL
  split
  · exact readN_le s
  · simp

set_option maxRecDepth 100000 in
set_option maxHeartbeats 3200000 in
theorem back_walk (A : Option Addr) (n c : Nat) (l : List Ins) (s : List UInt8) (w : World) (hT : Tabs w) (hR : RdC w 4 A n c (cellsI l)) (hl : l.length = n) (hn : n ≤ 2097152) (hs : s.length ≤ 2097152) :
    Calls Tryd.prog 9 #[.slice A n c, .string ⟨s.toArray⟩] w fun e w' => e = .returned (.bool true) ∧ Below w.heap.size w w' := by
  have hT' := hide hT
  have hR := hide hR
  have HL := hide hl
  have HS := hide hs
  clear hT hl hs
  go_enter Tryd.func9, Tryd.ntmps9
  go_wp2_with fail
  refine (shown_any _ hT'.out).mono ?_
  rintro e w1 ⟨rfl, hb⟩
  have hB := hide hb
  have hR := hide (hR.out.below hb)
  clear hb
  by_cases h200 : 200 < n
  · have q1 : (200 : Int) < (n : Int) := by omega
    go_wp2_with fail
    go_ret
    exact ⟨rfl, hB.out⟩
  · have q1 : (n : Int) ≤ 200 := by omega
    go_wp2_with fail
    refine (print_any A n c l _ (hT'.out.below hB.out) hR.out HL.out hn).mono ?_
    rintro e w2 ⟨rfl, hb⟩
    have hR := hide (hR.out.below hb)
    have hB := hide (hB.out.trans (hb.mono hB.out.size))
    clear hb
    by_cases hall : l.all mayI = true
    · have hP := hide (print_yes (l := l) (fun j i _ hi => List.all_eq_true.1 hall i (List.mem_of_getElem? hi)))
      have hQ := hide (read_text hall)
      have htl := hide (show (textI l).length ≤ 2097152 from by
        have h := textI_len l l.length (fun j i _ hi => List.all_eq_true.1 hall i (List.mem_of_getElem? hi))
        rw [List.take_of_length_le (Nat.le_refl _)] at h
        have := HL.out
        omega)
      clear hall
      rw [hP.out.1, hP.out.2]
      generalize textI l = t at hQ htl ⊢
      go_wp2_with fail
      refine (read_any t htl.out _ (hT'.out.below hB.out)).mono ?_
      rintro e w3 ⟨B3, _, c3, rfl, rfl, hZ, hb⟩
      have hR := hide (hR.out.below hb)
      have hB := hide (hB.out.trans (hb.mono hB.out.size))
      have hZ := hide hZ
      clear hb
      have hZ := hide (show RdC w3 4 B3 n c3 (cellsI l) from by have h := hZ.out; rw [hQ.out.1, HL.out] at h; exact h)
      rw [hQ.out.1, hQ.out.2.1, hQ.out.2.2, HL.out]
      go_wp2_with fail
      refine (same_same A B3 n c c3 l l _ hR.out hZ.out HL.out HL.out true (by simp)).mono ?_
      rintro e w4 ⟨rfl, hb⟩
      have hB := hide (hB.out.trans (hb.mono hB.out.size))
      clear hb
      clear hZ hR
      go_wp2_with fail
      refine (read_any s HS.out _ (hT'.out.below hB.out)).mono ?_
      rintro e w5 ⟨B1, _, c1, rfl, rfl, hX, hb⟩
      have hB := hide (hB.out.trans (hb.mono hB.out.size))
      have hX := hide hX
      clear hb
      rcases readE_two s with hE | hE
      · obtain ⟨e1, e2, e3⟩ := text_read hE
        have hP := hide (print_yes (l := readL s) (fun j i _ hi => List.all_eq_true.1 e1 i (List.mem_of_getElem? hi)))
        have hQ := hide (And.intro e2 e3)
        have hE' := hide hE
        have hxl := hide (show (readL s).length ≤ 2097152 by rw [e3]; have := readN_le s; have := HS.out; omega)
        have hNL := hide (show ((readN s : Nat) : Int) = ((readL s).length : Int) by rw [e3])
        clear e1 e2 e3 hE
        rw [hE'.out, hNL.out]
        go_wp2_with fail
        refine (print_any B1 (readL s).length c1 (readL s) _ (hT'.out.below hB.out) hX.out rfl hxl.out).mono ?_
        rintro e w6 ⟨rfl, hb⟩
        have hB := hide (hB.out.trans (hb.mono hB.out.size))
        clear hb
        rw [hP.out.1, hP.out.2, hQ.out.1]
        generalize (readL s).length = m at hxl
        clear hX
        go_wp2_with fail
        go_ret
        exact ⟨rfl, hB.out⟩
      · have hE' := hide hE
        have hxl := hide (show (readL s).length ≤ 2097152 from by have h1 := readL_len s; have h2 := HS.out; omega)
        rw [hE'.out]
        clear hE
        go_wp2_with fail
        refine (print_any B1 (readL s).length c1 (readL s) _ (hT'.out.below hB.out) hX.out rfl hxl.out).mono ?_
        rintro e w6 ⟨rfl, hb⟩
        have hB := hide (hB.out.trans (hb.mono hB.out.size))
        clear hb
        clear hX
        go_wp2_with fail
        go_ret
        exact ⟨rfl, hB.out⟩
    · have hP := hide (show printT l = [] ∧ printE l = 1 from ⟨if_neg hall, if_neg hall⟩)
      clear hall hR
      rw [hP.out.1, hP.out.2]
      go_wp2_with fail
      refine (read_any s HS.out _ (hT'.out.below hB.out)).mono ?_
      rintro e w5 ⟨B1, _, c1, rfl, rfl, hX, hb⟩
      have hB := hide (hB.out.trans (hb.mono hB.out.size))
      have hX := hide hX
      clear hb
      rcases readE_two s with hE | hE
      · obtain ⟨e1, e2, e3⟩ := text_read hE
        have hP := hide (print_yes (l := readL s) (fun j i _ hi => List.all_eq_true.1 e1 i (List.mem_of_getElem? hi)))
        have hQ := hide (And.intro e2 e3)
        have hE' := hide hE
        have hxl := hide (show (readL s).length ≤ 2097152 by rw [e3]; have := readN_le s; have := HS.out; omega)
        have hNL := hide (show ((readN s : Nat) : Int) = ((readL s).length : Int) by rw [e3])
        clear e1 e2 e3 hE
        rw [hE'.out, hNL.out]
        go_wp2_with fail
        refine (print_any B1 (readL s).length c1 (readL s) _ (hT'.out.below hB.out) hX.out rfl hxl.out).mono ?_
        rintro e w6 ⟨rfl, hb⟩
        have hB := hide (hB.out.trans (hb.mono hB.out.size))
        clear hb
        rw [hP.out.1, hP.out.2, hQ.out.1]
        generalize (readL s).length = m at hxl
        clear hX
        go_wp2_with fail
        go_ret
        exact ⟨rfl, hB.out⟩
      · have hE' := hide hE
        have hxl := hide (show (readL s).length ≤ 2097152 from by have h1 := readL_len s; have h2 := HS.out; omega)
        rw [hE'.out]
        clear hE
        go_wp2_with fail
        refine (print_any B1 (readL s).length c1 (readL s) _ (hT'.out.below hB.out) hX.out rfl hxl.out).mono ?_
        rintro e w6 ⟨rfl, hb⟩
        have hB := hide (hB.out.trans (hb.mono hB.out.size))
        clear hb
        clear hX
        go_wp2_with fail
        go_ret
        exact ⟨rfl, hB.out⟩

end Go.Proofs.YtijjamiidpikdaaDoor.Asm
