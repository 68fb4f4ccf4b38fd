/-
  The contracts of Line, Parse and Number, of the assembler and of the reference, at every argument, in one form. Conditions: the tables as laid; at most 2097152 bytes.
-/
import Derived.Test.YtijjamiidpikdaaDoorAsmRParse
namespace Go.Proofs.YtijjamiidpikdaaDoor.Asm
open Go.RowKit Go.Proofs.YtijjamiidpikdaaDoor.Isa

/-- an instruction's line, and whether it may be -/
def lineT (op a b imm : Int) : List UInt8 := if mayB op a b imm = true then lineL op.toNat a b imm else []
def lineE (op a b imm : Int) : Int := if mayB op a b imm = true then 0 else 1
theorem lineT_ok {op a b imm : Int} (h : mayB op a b imm = true) : lineT op a b imm = lineL op.toNat a b imm ∧ lineE op a b imm = 0 := ⟨if_pos h, if_pos h⟩
theorem lineT_no {op a b imm : Int} (h : mayB op a b imm = false) : lineT op a b imm = [] ∧ lineE op a b imm = 1 := ⟨if_neg (by rw [h]; decide), if_neg (by rw [h]; decide)⟩
theorem line_any (op a b imm : Int) (w : World) (hT : Tabs w) :
    Calls Tryd.prog 11 #[.agg #[.int .i64 op, .int .i64 a, .int .i64 b, .int .i64 imm]] w fun e w' => e = .returned (.tuple #[.string ⟨(lineT op a b imm).toArray⟩, .int .i64 (lineE op a b imm)]) ∧ Below w.heap.size w w' := by
  cases h : mayB op a b imm with
  | false => rw [(lineT_no h).1, (lineT_no h).2]; exact line_no op a b imm w hT h
  | true =>
    rw [(lineT_ok h).1, (lineT_ok h).2]
    obtain ⟨n, rfl⟩ := Int.eq_ofNat_of_zero_le (show 0 ≤ op by have := (mayB_in h).1; omega)
    exact line_ok n a b imm w hT h
theorem rline_any (op a b imm : Int) (w : World) :
    Calls Tryd.prog 13 #[.agg #[.int .i64 op, .int .i64 a, .int .i64 b, .int .i64 imm]] w fun e w' => e = .returned (.tuple #[.string ⟨(lineT op a b imm).toArray⟩, .int .i64 (lineE op a b imm)]) ∧ Below w.heap.size w w' := by
  cases h : mayB op a b imm with
  | false => rw [(lineT_no h).1, (lineT_no h).2]; exact rline_no op a b imm w h
  | true =>
    rw [(lineT_ok h).1, (lineT_ok h).2]
    obtain ⟨n, rfl⟩ := Int.eq_ofNat_of_zero_le (show 0 ≤ op by have := (mayB_in h).1; omega)
    exact rline_ok n a b imm w h

/-- the fields of what was taken -/
def fO : InsR → Int
  | some (op, _, _, _) => (op : Int)
  | none => 0
def fA : InsR → Int
  | some (_, a, _, _) => a
  | none => 0
def fB : InsR → Int
  | some (_, _, b, _) => b
  | none => 0
def fI : InsR → Int
  | some (_, _, _, i) => i
  | none => 0
theorem insV_agg (p : InsR) : insV p = .agg #[.int .i64 (fO p), .int .i64 (fA p), .int .i64 (fB p), .int .i64 (fI p)] := by
  cases p <;> rfl
theorem parse_all (l : List UInt8) (hl : l.length ≤ 2097152) (w : World) (hT : Tabs w) :
    Calls Tryd.prog 14 #[.string ⟨l.toArray⟩] w fun e w' => e = .returned (.tuple #[.agg #[.int .i64 (fO (parseA l)), .int .i64 (fA (parseA l)), .int .i64 (fB (parseA l)), .int .i64 (fI (parseA l))], .int .i64 (insE (parseA l))]) ∧ Below w.heap.size w w' := by
  rw [← insV_agg]
  exact parse_any l hl w hT
theorem rparse_all (l : List UInt8) (hl : l.length ≤ 2097152) (w : World) :
    Calls Tryd.prog 15 #[.string ⟨l.toArray⟩] w fun e w' => e = .returned (.tuple #[.agg #[.int .i64 (fO (parseA l)), .int .i64 (fA (parseA l)), .int .i64 (fB (parseA l)), .int .i64 (fI (parseA l))], .int .i64 (insE (parseA l))]) ∧ Below w.heap.size w w' := by
  rw [← insV_agg, parse_same]
  exact rparse_any l hl w
/-- a line is at most 40 bytes long -/
theorem lineL_len {op : Nat} {a b imm : Int} (h : mayB op a b imm = true) : (lineL op a b imm).length ≤ 40 := by
  obtain ⟨l, g, ⟨a0, a1⟩, ⟨b0, b1⟩, ⟨i0, i1⟩, -⟩ := may_unused h
  unfold lineL
  have h1 := name_len op l
  have h2 := use_len op l
  have h3 := flat_len (part_len (a := a) (b := b) (imm := imm) (by omega) (by omega) (by omega) (by omega) (by omega) (by omega)) (useOf op)
  rw [List.length_append]
  omega

end Go.Proofs.YtijjamiidpikdaaDoor.Asm
