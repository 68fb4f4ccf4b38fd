/-
  NARROWER THAN 'FOR EVERY INPUT', by the rows' own cells (each row's printed sentence says how): IsaApart: laid · IsaFields: laid · IsaWords: laid · IsaBack: laid · IsaRegs: laid · IsaCuts: laid · IsaBytes: laid · IsaRows: laid.
  DERIVED. THE GIVEN ROWS OF THIS SEAT. 8 by the template 'for every input the law returns true; each argument reads behind the call as it read before'; 0 by the template 'total and deterministic' (their statements: YtjiamhoabbjkmaaDoorTotals.lean).
  GIVEN WITH THE SEED: the statements are not yours to turn. If you find one false, say at which input.
  Laid BY PROGRAM, IN A SANDBOX (cutbox-rows.mjs): the forced cells as the released guide's own fill.sh prints them over the translation 5a5c5f7f9f5e6e82… (all of the seat's roots in one cut). By AI agents, Wed Nov 11 2026. No macro, syntax, notation, axiom, sorry.
-/
import Derived.Test.YtjiamhoabbjkmaaDoorChecked
import GoSem.Claim
import GoSem.ClaimJoined
import GoSem.ClaimMapViews
import Derived.JoinedTies
import Derived.KernelRfl
namespace Go.Proofs.YtjiamhoabbjkmaaDoor
/- THE CELL 'sum', in the pinned program and in every row, IS THE sha256 OF THE DUMP (.gsa) THAT YtjiamhoabbjkmaaDoorProg.lean LOADS. Nothing in Lean hashes anything: it is a label: what it is worth is what the hold of that sum in a sandbox is worth. -/
noncomputable def Tryd.pinned : Pinned := { name := "ytjiamhoabbjkmaadoor", sum := "5a5c5f7f9f5e6e82cb5e9667589b33ccc1a976459709fc942bae7393f6c655bd", checked := Tryd.checked }
namespace Rows
def none {H : Type} : Left H := { results := [], args := [] }

/- WHAT THE LISTED PACKAGE-LEVEL VARIABLES READ AS WHEN THE CALL BEGINS. Each datum BY PROGRAM (the guide's laid-datum.mjs) off the statement by which the dump's own 'gosem.cut.vars' lays the variable. In a bare row this is a premise. The card (YtjiamhoabbjkmaaDoorCards.lean) ties it to the program's text. -/
def laid_transom_isa_uses {H : Type} : DataW H := .agg [.lit (.int .i64 0), .lit (.int .i64 5), .lit (.int .i64 5), .lit (.int .i64 3), .lit (.int .i64 3), .lit (.int .i64 3), .lit (.int .i64 3), .lit (.int .i64 3), .lit (.int .i64 3), .lit (.int .i64 3), .lit (.int .i64 3), .lit (.int .i64 3), .lit (.int .i64 3), .lit (.int .i64 5), .lit (.int .i64 7), .lit (.int .i64 7), .lit (.int .i64 7), .lit (.int .i64 7), .lit (.int .i64 4), .lit (.int .i64 5), .lit (.int .i64 1), .lit (.int .i64 7), .lit (.int .i64 7), .lit (.int .i64 7), .lit (.int .i64 0)]

/-- 'transomlaw01.IsaApart': WHATEVER THE INPUT: true; the input reads as it did. -/
def isaApartSpec : ChangeSpec := { name := "isaApart", fn := fun _ => fun
  | [d1, d2] => { results := [.lit (.bool true)], args := [d1, d2] }
  | _ => none }
def isaApartRow : OpenClaim := { program := "ytjiamhoabbjkmaadoor", sum := "5a5c5f7f9f5e6e82cb5e9667589b33ccc1a976459709fc942bae7393f6c655bd", func := "transom/transomlaw01.IsaApart", spec := "isaApart", named := ["transom/isa.uses"], apart := false, laid := [("transom/isa.uses", laid_transom_isa_uses)] }
def IsaApartSaid : Prop := isaApartRow.holds Tryd.pinned (OpenSpec.ofChange isaApartSpec)

/-- ITS FALSE NEIGHBOUR: 'it returns false'. Refute it at one input. -/
def isaApartWrong : ChangeSpec := { name := "isaApart", fn := fun _ => fun
  | [d1, d2] => { results := [.lit (.bool false)], args := [d1, d2] }
  | _ => none }
def IsaApartWrongFalsely : Prop := isaApartRow.holds Tryd.pinned (OpenSpec.ofChange isaApartWrong)

/-- 'transomlaw01.IsaFields': WHATEVER THE INPUT: true; the input reads as it did. -/
def isaFieldsSpec : ChangeSpec := { name := "isaFields", fn := fun _ => fun
  | [d] => { results := [.lit (.bool true)], args := [d] }
  | _ => none }
def isaFieldsRow : OpenClaim := { program := "ytjiamhoabbjkmaadoor", sum := "5a5c5f7f9f5e6e82cb5e9667589b33ccc1a976459709fc942bae7393f6c655bd", func := "transom/transomlaw01.IsaFields", spec := "isaFields", named := ["transom/isa.uses"], apart := false, laid := [("transom/isa.uses", laid_transom_isa_uses)] }
def IsaFieldsSaid : Prop := isaFieldsRow.holds Tryd.pinned (OpenSpec.ofChange isaFieldsSpec)

/-- ITS FALSE NEIGHBOUR: 'it returns false'. Refute it at one input. -/
def isaFieldsWrong : ChangeSpec := { name := "isaFields", fn := fun _ => fun
  | [d] => { results := [.lit (.bool false)], args := [d] }
  | _ => none }
def IsaFieldsWrongFalsely : Prop := isaFieldsRow.holds Tryd.pinned (OpenSpec.ofChange isaFieldsWrong)

/-- 'transomlaw01.IsaWords': WHATEVER THE INPUT: true; the input reads as it did. -/
def isaWordsSpec : ChangeSpec := { name := "isaWords", fn := fun _ => fun
  | [d1, d2] => { results := [.lit (.bool true)], args := [d1, d2] }
  | _ => none }
def isaWordsRow : OpenClaim := { program := "ytjiamhoabbjkmaadoor", sum := "5a5c5f7f9f5e6e82cb5e9667589b33ccc1a976459709fc942bae7393f6c655bd", func := "transom/transomlaw01.IsaWords", spec := "isaWords", named := ["transom/isa.uses"], apart := false, laid := [("transom/isa.uses", laid_transom_isa_uses)] }
def IsaWordsSaid : Prop := isaWordsRow.holds Tryd.pinned (OpenSpec.ofChange isaWordsSpec)

/-- ITS FALSE NEIGHBOUR: 'it returns false'. Refute it at one input. -/
def isaWordsWrong : ChangeSpec := { name := "isaWords", fn := fun _ => fun
  | [d1, d2] => { results := [.lit (.bool false)], args := [d1, d2] }
  | _ => none }
def IsaWordsWrongFalsely : Prop := isaWordsRow.holds Tryd.pinned (OpenSpec.ofChange isaWordsWrong)

/-- 'transomlaw01.IsaBack': WHATEVER THE INPUT: true; the input reads as it did. -/
def isaBackSpec : ChangeSpec := { name := "isaBack", fn := fun _ => fun
  | [d1, d2] => { results := [.lit (.bool true)], args := [d1, d2] }
  | _ => none }
def isaBackRow : OpenClaim := { program := "ytjiamhoabbjkmaadoor", sum := "5a5c5f7f9f5e6e82cb5e9667589b33ccc1a976459709fc942bae7393f6c655bd", func := "transom/transomlaw01.IsaBack", spec := "isaBack", named := ["transom/isa.uses"], apart := false, laid := [("transom/isa.uses", laid_transom_isa_uses)] }
def IsaBackSaid : Prop := isaBackRow.holds Tryd.pinned (OpenSpec.ofChange isaBackSpec)

/-- ITS FALSE NEIGHBOUR: 'it returns false'. Refute it at one input. -/
def isaBackWrong : ChangeSpec := { name := "isaBack", fn := fun _ => fun
  | [d1, d2] => { results := [.lit (.bool false)], args := [d1, d2] }
  | _ => none }
def IsaBackWrongFalsely : Prop := isaBackRow.holds Tryd.pinned (OpenSpec.ofChange isaBackWrong)

/-- 'transomlaw01.IsaRegs': WHATEVER THE INPUT: true; the input reads as it did. -/
def isaRegsSpec : ChangeSpec := { name := "isaRegs", fn := fun _ => fun
  | [d] => { results := [.lit (.bool true)], args := [d] }
  | _ => none }
def isaRegsRow : OpenClaim := { program := "ytjiamhoabbjkmaadoor", sum := "5a5c5f7f9f5e6e82cb5e9667589b33ccc1a976459709fc942bae7393f6c655bd", func := "transom/transomlaw01.IsaRegs", spec := "isaRegs", named := ["transom/isa.uses"], apart := false, laid := [("transom/isa.uses", laid_transom_isa_uses)] }
def IsaRegsSaid : Prop := isaRegsRow.holds Tryd.pinned (OpenSpec.ofChange isaRegsSpec)

/-- ITS FALSE NEIGHBOUR: 'it returns false'. Refute it at one input. -/
def isaRegsWrong : ChangeSpec := { name := "isaRegs", fn := fun _ => fun
  | [d] => { results := [.lit (.bool false)], args := [d] }
  | _ => none }
def IsaRegsWrongFalsely : Prop := isaRegsRow.holds Tryd.pinned (OpenSpec.ofChange isaRegsWrong)

/-- 'transomlaw01.IsaCuts': WHATEVER THE INPUT: true; the input reads as it did. -/
def isaCutsSpec : ChangeSpec := { name := "isaCuts", fn := fun _ => fun
  | [d] => { results := [.lit (.bool true)], args := [d] }
  | _ => none }
def isaCutsRow : OpenClaim := { program := "ytjiamhoabbjkmaadoor", sum := "5a5c5f7f9f5e6e82cb5e9667589b33ccc1a976459709fc942bae7393f6c655bd", func := "transom/transomlaw01.IsaCuts", spec := "isaCuts", named := ["transom/isa.uses"], apart := false, laid := [("transom/isa.uses", laid_transom_isa_uses)] }
def IsaCutsSaid : Prop := isaCutsRow.holds Tryd.pinned (OpenSpec.ofChange isaCutsSpec)

/-- ITS FALSE NEIGHBOUR: 'it returns false'. Refute it at one input. -/
def isaCutsWrong : ChangeSpec := { name := "isaCuts", fn := fun _ => fun
  | [d] => { results := [.lit (.bool false)], args := [d] }
  | _ => none }
def IsaCutsWrongFalsely : Prop := isaCutsRow.holds Tryd.pinned (OpenSpec.ofChange isaCutsWrong)

/-- 'transomlaw01.IsaBytes': WHATEVER THE INPUT: true; the input reads as it did. -/
def isaBytesSpec : ChangeSpec := { name := "isaBytes", fn := fun _ => fun
  | [d1, d2] => { results := [.lit (.bool true)], args := [d1, d2] }
  | _ => none }
def isaBytesRow : OpenClaim := { program := "ytjiamhoabbjkmaadoor", sum := "5a5c5f7f9f5e6e82cb5e9667589b33ccc1a976459709fc942bae7393f6c655bd", func := "transom/transomlaw01.IsaBytes", spec := "isaBytes", inPlace := ["internal/abi.NoEscape"], named := ["transom/isa.uses"], apart := false, laid := [("transom/isa.uses", laid_transom_isa_uses)] }
def IsaBytesSaid : Prop := isaBytesRow.holds Tryd.pinned (OpenSpec.ofChange isaBytesSpec)

/-- ITS FALSE NEIGHBOUR: 'it returns false'. Refute it at one input. -/
def isaBytesWrong : ChangeSpec := { name := "isaBytes", fn := fun _ => fun
  | [d1, d2] => { results := [.lit (.bool false)], args := [d1, d2] }
  | _ => none }
def IsaBytesWrongFalsely : Prop := isaBytesRow.holds Tryd.pinned (OpenSpec.ofChange isaBytesWrong)

/-- 'transomlaw01.IsaRows': WHATEVER THE INPUT: true; the input reads as it did. -/
def isaRowsSpec : ChangeSpec := { name := "isaRows", fn := fun _ => fun
  | [d1, d2] => { results := [.lit (.bool true)], args := [d1, d2] }
  | _ => none }
def isaRowsRow : OpenClaim := { program := "ytjiamhoabbjkmaadoor", sum := "5a5c5f7f9f5e6e82cb5e9667589b33ccc1a976459709fc942bae7393f6c655bd", func := "transom/transomlaw01.IsaRows", spec := "isaRows", inPlace := ["internal/abi.NoEscape"], named := ["transom/isa.uses"], apart := false, laid := [("transom/isa.uses", laid_transom_isa_uses)] }
def IsaRowsSaid : Prop := isaRowsRow.holds Tryd.pinned (OpenSpec.ofChange isaRowsSpec)

/-- ITS FALSE NEIGHBOUR: 'it returns false'. Refute it at one input. -/
def isaRowsWrong : ChangeSpec := { name := "isaRows", fn := fun _ => fun
  | [d1, d2] => { results := [.lit (.bool false)], args := [d1, d2] }
  | _ => none }
def IsaRowsWrongFalsely : Prop := isaRowsRow.holds Tryd.pinned (OpenSpec.ofChange isaRowsWrong)

/- THE SECOND FORM. 'bulk': how many values and letters a reading holds, each counted each time it is reached (what is shared counts as often as it is met; a slice's spare places count too). A statement '..UptoSaid' is the law's where the arguments, and the package variables that the reading takes, are together of bulk at most 1048576: NARROWER than '..Said'. Prove '..Said' where nothing that the law and all that it calls make is longer than what came in: it says more and counts as full. Else prove '..UptoSaid'. A law counts once. -/
mutual
def uptoBulk {H : Type} : DataW H → Nat
  | .lit (.string bytes) => bytes.length + 1
  | .lit _ => 1
  | .nil => 1
  | .ptr d => uptoBulk d + 1
  | .slice elems spare => uptoBulkAll elems + uptoBulkAll spare + 1
  | .agg parts => uptoBulkAll parts + 1
  | .iface _ d => uptoBulk d + 1
  | .map entries => uptoBulkEntries entries + 1
  | .held _ => 1
def uptoBulkAll {H : Type} : List (DataW H) → Nat
  | [] => 0
  | d :: r => uptoBulk d + uptoBulkAll r
def uptoBulkEntries {H : Type} : List (Lit × DataW H) → Nat
  | [] => 0
  | x :: r => uptoBulkEntry x + uptoBulkEntries r
def uptoBulkEntry {H : Type} : Lit × DataW H → Nat
  | (.string bytes, d) => bytes.length + uptoBulk d + 1
  | (_, d) => uptoBulk d + 1
 end
def uptoSmall : (H : Type) → List (DataW H) → Bool := fun _ ds => decide (uptoBulkAll ds ≤ 1048576)
def OpenSpec.upto (s : _root_.Go.ChangeSpec) : _root_.Go.OpenSpec := { _root_.Go.OpenSpec.ofChange s with cond := some uptoSmall }

/-- 'transomlaw01.IsaApart', WHERE WHAT IT READS IS OF BULK AT MOST 1048576: true; the input reads as it did. -/
def isaApartUptoRow : OpenClaim := { program := "ytjiamhoabbjkmaadoor", sum := "5a5c5f7f9f5e6e82cb5e9667589b33ccc1a976459709fc942bae7393f6c655bd", func := "transom/transomlaw01.IsaApart", spec := "isaApart", named := ["transom/isa.uses"], apart := false, laid := [("transom/isa.uses", laid_transom_isa_uses)], narrowed := true }
def IsaApartUptoSaid : Prop := isaApartUptoRow.holds Tryd.pinned (OpenSpec.upto isaApartSpec)

/-- 'transomlaw01.IsaFields', WHERE WHAT IT READS IS OF BULK AT MOST 1048576: true; the input reads as it did. -/
def isaFieldsUptoRow : OpenClaim := { program := "ytjiamhoabbjkmaadoor", sum := "5a5c5f7f9f5e6e82cb5e9667589b33ccc1a976459709fc942bae7393f6c655bd", func := "transom/transomlaw01.IsaFields", spec := "isaFields", named := ["transom/isa.uses"], apart := false, laid := [("transom/isa.uses", laid_transom_isa_uses)], narrowed := true }
def IsaFieldsUptoSaid : Prop := isaFieldsUptoRow.holds Tryd.pinned (OpenSpec.upto isaFieldsSpec)

/-- 'transomlaw01.IsaWords', WHERE WHAT IT READS IS OF BULK AT MOST 1048576: true; the input reads as it did. -/
def isaWordsUptoRow : OpenClaim := { program := "ytjiamhoabbjkmaadoor", sum := "5a5c5f7f9f5e6e82cb5e9667589b33ccc1a976459709fc942bae7393f6c655bd", func := "transom/transomlaw01.IsaWords", spec := "isaWords", named := ["transom/isa.uses"], apart := false, laid := [("transom/isa.uses", laid_transom_isa_uses)], narrowed := true }
def IsaWordsUptoSaid : Prop := isaWordsUptoRow.holds Tryd.pinned (OpenSpec.upto isaWordsSpec)

/-- 'transomlaw01.IsaBack', WHERE WHAT IT READS IS OF BULK AT MOST 1048576: true; the input reads as it did. -/
def isaBackUptoRow : OpenClaim := { program := "ytjiamhoabbjkmaadoor", sum := "5a5c5f7f9f5e6e82cb5e9667589b33ccc1a976459709fc942bae7393f6c655bd", func := "transom/transomlaw01.IsaBack", spec := "isaBack", named := ["transom/isa.uses"], apart := false, laid := [("transom/isa.uses", laid_transom_isa_uses)], narrowed := true }
def IsaBackUptoSaid : Prop := isaBackUptoRow.holds Tryd.pinned (OpenSpec.upto isaBackSpec)

/-- 'transomlaw01.IsaRegs', WHERE WHAT IT READS IS OF BULK AT MOST 1048576: true; the input reads as it did. -/
def isaRegsUptoRow : OpenClaim := { program := "ytjiamhoabbjkmaadoor", sum := "5a5c5f7f9f5e6e82cb5e9667589b33ccc1a976459709fc942bae7393f6c655bd", func := "transom/transomlaw01.IsaRegs", spec := "isaRegs", named := ["transom/isa.uses"], apart := false, laid := [("transom/isa.uses", laid_transom_isa_uses)], narrowed := true }
def IsaRegsUptoSaid : Prop := isaRegsUptoRow.holds Tryd.pinned (OpenSpec.upto isaRegsSpec)

/-- 'transomlaw01.IsaCuts', WHERE WHAT IT READS IS OF BULK AT MOST 1048576: true; the input reads as it did. -/
def isaCutsUptoRow : OpenClaim := { program := "ytjiamhoabbjkmaadoor", sum := "5a5c5f7f9f5e6e82cb5e9667589b33ccc1a976459709fc942bae7393f6c655bd", func := "transom/transomlaw01.IsaCuts", spec := "isaCuts", named := ["transom/isa.uses"], apart := false, laid := [("transom/isa.uses", laid_transom_isa_uses)], narrowed := true }
def IsaCutsUptoSaid : Prop := isaCutsUptoRow.holds Tryd.pinned (OpenSpec.upto isaCutsSpec)

/-- 'transomlaw01.IsaBytes', WHERE WHAT IT READS IS OF BULK AT MOST 1048576: true; the input reads as it did. -/
def isaBytesUptoRow : OpenClaim := { program := "ytjiamhoabbjkmaadoor", sum := "5a5c5f7f9f5e6e82cb5e9667589b33ccc1a976459709fc942bae7393f6c655bd", func := "transom/transomlaw01.IsaBytes", spec := "isaBytes", inPlace := ["internal/abi.NoEscape"], named := ["transom/isa.uses"], apart := false, laid := [("transom/isa.uses", laid_transom_isa_uses)], narrowed := true }
def IsaBytesUptoSaid : Prop := isaBytesUptoRow.holds Tryd.pinned (OpenSpec.upto isaBytesSpec)

/-- 'transomlaw01.IsaRows', WHERE WHAT IT READS IS OF BULK AT MOST 1048576: true; the input reads as it did. -/
def isaRowsUptoRow : OpenClaim := { program := "ytjiamhoabbjkmaadoor", sum := "5a5c5f7f9f5e6e82cb5e9667589b33ccc1a976459709fc942bae7393f6c655bd", func := "transom/transomlaw01.IsaRows", spec := "isaRows", inPlace := ["internal/abi.NoEscape"], named := ["transom/isa.uses"], apart := false, laid := [("transom/isa.uses", laid_transom_isa_uses)], narrowed := true }
def IsaRowsUptoSaid : Prop := isaRowsUptoRow.holds Tryd.pinned (OpenSpec.upto isaRowsSpec)

end Rows
end Go.Proofs.YtjiamhoabbjkmaaDoor
