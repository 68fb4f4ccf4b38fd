/-
  The walk of AsmTexts: a program's text, and the program of a text, are as the document says. Conditions: the tables as laid; at most 2097152 bytes.
-/
import Derived.Test.YtijjamiidpikdaaDoorAsmRead
import Derived.Test.YtijjamiidpikdaaDoorAsmPrint
import Derived.Test.YtijjamiidpikdaaDoorAsmNumbers
import Derived.Test.YtijjamiidpikdaaDoorAsmRRead
import Derived.Test.YtijjamiidpikdaaDoorAsmRPrint
import Derived.Test.YtijjamiidpikdaaDoorIsaSame
namespace Go.Proofs.YtijjamiidpikdaaDoor.Asm
open Go.RowKit Go.Proofs.YtijjamiidpikdaaDoor.Isa

set_option maxRecDepth 100000 in
set_option maxHeartbeats 3200000 in
theorem texts_walk (A : Option Addr) (n c : Nat) (l : List Ins) (s : List UInt8) (w : World) (hT : Tabs w) (hR : RdC w 4 A n c (cellsI l)) (hl : l.length = n) (hn : n ≤ 2097152) (hs : s.length ≤ 2097152) :
    Calls Tryd.prog 8 #[.slice A n c, .string ⟨s.toArray⟩] w fun e w' => e = .returned (.bool true) ∧ Below w.heap.size w w' := by
  have hT' := hide hT
  have hR := hide hR
  have HL := hide hl
  have HS := hide hs
  clear hT hl hs
  go_enter Tryd.func8, Tryd.ntmps8
  go_wp2_with fail
  refine (shown_any _ hT'.out).mono ?_
  rintro e w1 ⟨rfl, hb⟩
  have hB := hide hb
  have hR := hide (hR.out.below hb)
  clear hb
  by_cases h200 : 200 < n
  · have q1 : (200 : Int) < (n : Int) := by omega
    go_wp2_with fail
    go_ret
    exact ⟨rfl, hB.out⟩
  · have q1 : (n : Int) ≤ 200 := by omega
    go_wp2_with fail
    refine (print_any A n c l _ (hT'.out.below hB.out) hR.out HL.out hn).mono ?_
    rintro e w2 ⟨rfl, hb⟩
    have hR := hide (hR.out.below hb)
    have hB := hide (hB.out.trans (hb.mono hB.out.size))
    clear hb
    go_wp2_with fail
    refine (rprint_any A n c l _ hR.out HL.out hn).mono ?_
    rintro e w3 ⟨rfl, hb⟩
    have hR := hide (hR.out.below hb)
    have hB := hide (hB.out.trans (hb.mono hB.out.size))
    clear hb
    go_wp2_with fail
    refine (read_any s HS.out _ (hT'.out.below hB.out)).mono ?_
    rintro e w4 ⟨B1, _, c1, rfl, rfl, hX, hb⟩
    have hB := hide (hB.out.trans (hb.mono hB.out.size))
    have hX := hide hX
    clear hb
    go_wp2_with fail
    refine (rread_any s HS.out _).mono ?_
    rintro e w5 ⟨B2, _, c2, rfl, rfl, hY, hb⟩
    have hX := hide (hX.out.below hb)
    have hB := hide (hB.out.trans (hb.mono hB.out.size))
    have hY := hide hY
    clear hb
    go_wp2_with fail
    refine (same_same B1 B2 (readL s).length c1 c2 (readL s) (readL s) _ hX.out hY.out rfl rfl true (by simp)).mono ?_
    rintro e w6 ⟨rfl, hb⟩
    have hB := hide (hB.out.trans (hb.mono hB.out.size))
    clear hb
    clear hX hY hR
    go_wp2_with fail
    go_ret
    exact ⟨rfl, hB.out⟩

end Go.Proofs.YtijjamiidpikdaaDoor.Asm
