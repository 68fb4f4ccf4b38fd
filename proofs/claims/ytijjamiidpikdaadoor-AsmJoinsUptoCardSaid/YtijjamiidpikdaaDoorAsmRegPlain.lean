/-
  A register's number: the plain law. Conditions: none.
-/
import Derived.Test.YtijjamiidpikdaaDoorAsmPlain
namespace Go.Proofs.YtijjamiidpikdaaDoor.Asm

/-- a text without its r; was there one -/
def cutR : List UInt8 → List UInt8 × Bool
  | [] => ([], false)
  | c :: t => if c = 114 then (t, true) else (c :: t, false)
/-- a register's number; is it one -/
def regV (l : List UInt8) : Int × Bool := ((numV (cutR l).1).1, (cutR l).2 && (numV (cutR l).1).2)

end Go.Proofs.YtijjamiidpikdaaDoor.Asm
