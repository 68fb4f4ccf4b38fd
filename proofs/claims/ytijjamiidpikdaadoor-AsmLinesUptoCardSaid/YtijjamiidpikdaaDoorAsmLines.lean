/-
  The walk of AsmLines: an instruction's line, the instruction of a line, and the number of a text, are as the document says. Conditions: the tables as laid; at most 2097152 bytes.
-/
import Derived.Test.YtijjamiidpikdaaDoorAsmAny
import Derived.Test.YtijjamiidpikdaaDoorAsmNumbers
namespace Go.Proofs.YtijjamiidpikdaaDoor.Asm
open Go.RowKit Go.Proofs.YtijjamiidpikdaaDoor.Isa

set_option maxRecDepth 100000 in
set_option maxHeartbeats 3200000 in
theorem lines_walk (op a b imm : Int) (l : List UInt8) (w : World) (hT : Tabs w) (hl : l.length ≤ 2097152) :
    Calls Tryd.prog 4 #[.agg #[.int .i64 op, .int .i64 a, .int .i64 b, .int .i64 imm], .string ⟨l.toArray⟩] w fun e w' => e = .returned (.bool true) ∧ Below w.heap.size w w' := by
  have hT' := Lib.hid hT
  have hml := hide (show l.length ≤ maxLen from by unfold maxLen; omega)
  have HL := hide hl
  clear hT hl
  go_enter Tryd.func4, Tryd.ntmps4
  go_wp2_with fail
  refine (shown_any _ (hT'.out.below (below_new _ _))).mono ?_
  rintro e w1 ⟨rfl, hb⟩
  have hI := hide ((ic_new w op a b imm).below hb)
  have hB := hide (below_call hb)
  clear hb
  obtain ⟨y0, y1, y2, y3⟩ := hI.out.cells
  go_wp2_with fail
  refine (line_any op a b imm _ (hT'.out.below hB.out)).mono ?_
  rintro e w2 ⟨rfl, hb⟩
  have hI := hide (hI.out.below hb)
  have hB := hide (hB.out.trans (hb.mono hB.out.size))
  clear hb y0 y1 y2 y3
  obtain ⟨y0, y1, y2, y3⟩ := hI.out.cells
  go_wp2_with fail
  refine (rline_any op a b imm _).mono ?_
  rintro e w3 ⟨rfl, hb⟩
  have hB := hide (hB.out.trans (hb.mono hB.out.size))
  clear hb y0 y1 y2 y3 hI
  go_wp2_with fail
  refine (parse_all l HL.out _ (hT'.out.below hB.out)).mono ?_
  rintro e w4 ⟨rfl, hb⟩
  have hB := hide (hB.out.trans (hb.mono hB.out.size))
  clear hb
  go_wp2_with fail
  have hX := hide (ic_new w4 (fO (parseA l)) (fA (parseA l)) (fB (parseA l)) (fI (parseA l)))
  have hs4 := hB.out.size
  have hB := hide (hB.out.alloc hB.out.size (.cells #[.int .i64 (fO (parseA l)), .int .i64 (fA (parseA l)), .int .i64 (fB (parseA l)), .int .i64 (fI (parseA l))] 27))
  refine (rparse_all l HL.out _).mono ?_
  rintro e w5 ⟨rfl, hb⟩
  have hX := hide (hX.out.below hb)
  have hB := hide (hB.out.trans (hb.mono hB.out.size))
  have hs5 := hb.size
  simp only [World.size_alloc] at hs5
  clear hb
  go_wp2_with fail
  have hY := hide (ic_new w5 (fO (parseA l)) (fA (parseA l)) (fB (parseA l)) (fI (parseA l)))
  have hX := hide (hX.out.below (below_new w5 (.cells #[.int .i64 (fO (parseA l)), .int .i64 (fA (parseA l)), .int .i64 (fB (parseA l)), .int .i64 (fI (parseA l))] 27)))
  have hB := hide (hB.out.alloc hB.out.size (.cells #[.int .i64 (fO (parseA l)), .int .i64 (fA (parseA l)), .int .i64 (fB (parseA l)), .int .i64 (fI (parseA l))] 27))
  refine (number_any l _ hml.out).mono ?_
  rintro e w6 ⟨rfl, hb⟩
  have hX := hide (hX.out.below hb)
  have hY := hide (hY.out.below hb)
  have hB := hide (hB.out.trans (hb.mono hB.out.size))
  clear hb
  go_wp2_with fail
  refine (rnumber_any l _ hml.out).mono ?_
  rintro e w7 ⟨rfl, hb⟩
  obtain ⟨x0, x1, x2, x3⟩ := (hX.out.below hb).cells
  obtain ⟨y0, y1, y2, y3⟩ := (hY.out.below hb).cells
  have hB := hide (hB.out.trans (hb.mono hB.out.size))
  clear hb hX hY
  go_wp2_with fail
  go_ret
  exact ⟨rfl, hB.out⟩

end Go.Proofs.YtijjamiidpikdaaDoor.Asm
