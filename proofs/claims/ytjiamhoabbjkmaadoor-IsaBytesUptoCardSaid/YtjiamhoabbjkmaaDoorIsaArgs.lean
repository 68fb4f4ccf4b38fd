/-
  The arguments of the instructions' laws, opened: an instruction by value, a word; the table's cells out of the row's list. Conditions: none.
-/
import Derived.Test.YtjiamhoabbjkmaaDoorLaw
import Derived.Test.YtjiamhoabbjkmaaDoorIsaWord
namespace Go.Proofs.YtjiamhoabbjkmaaDoor.Isa
open Go.ChangeShapes Go.WideShapes Go.ChangeAt Go.RowKit Go.Joins

theorem cellsIns : Tryd.prog.cellsOf 23 = 4 := by kernel_rfl
theorem cellsInt : Tryd.prog.cellsOf 3 = 1 := by kernel_rfl
theorem cellsUses : Tryd.prog.cellsOf 54 = 25 := by kernel_rfl
theorem gUses : Tryd.prog.globalNamed "transom/isa.uses" = some 0 := by kernel_rfl
theorem gUsesType : (Tryd.prog.globals[0]?).map (·.type) = some 54 := by kernel_rfl

section
variable {H : Type} {enc : TypeId × Value → H} {w : World} {base : Nat} {spare : Nat → Bool} {held : Bool}
theorem open_ins {r : Reach} {b0 : Nat} {v : Value} {d : DataW H} {p : List MemPlace} (hv : Value.okWide Tryd.prog w r b0 23 v) (h : DataW.Trod enc Tryd.prog w base spare held 23 v d p) :
    ∃ op a b imm : Int, v = .agg #[.int .i64 op, .int .i64 a, .int .i64 b, .int .i64 imm] ∧ d = .agg [.lit (.int .i64 op), .lit (.int .i64 a), .lit (.int .i64 b), .lit (.int .i64 imm)] ∧ p = [] := by
  obtain ⟨c0, c1, c2, c3, y0, y1, y2, y3, m, rfl, rfl, rfl, hy0, hy1, hy2, hy3⟩ := open_agg4 Tryd.underlying23 (by kernel_rfl) cellsIns hv h
  obtain ⟨a, e0, rfl, wa⟩ := DataW.trod_int Tryd.underlying3 hy0
  obtain ⟨b, e1, rfl, wb⟩ := DataW.trod_int Tryd.underlying3 hy1
  obtain ⟨c, e2, rfl, wc⟩ := DataW.trod_int Tryd.underlying3 hy2
  obtain ⟨d, e3, rfl, wd⟩ := DataW.trod_int Tryd.underlying3 hy3
  simp at e0 e1 e2 e3
  subst e0 e1 e2 e3
  exact ⟨a, b, c, d, rfl, rfl, rfl⟩
end

theorem tab_of {W : World} (h : Lib.TabIs Tryd.prog W "transom/isa.uses" .i64 usesL) : Tab W :=
  ⟨World.block_lt_of_cell? W ⟨0, 0, none⟩ (h.cell gUses 0 (by decide)), fun n hn => h.cell gUses n (by simpa [usesL] using hn)⟩

end Go.Proofs.YtjiamhoabbjkmaaDoor.Isa
