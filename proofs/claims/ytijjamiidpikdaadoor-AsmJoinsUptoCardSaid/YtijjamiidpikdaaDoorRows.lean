/-
  NARROWER THAN 'FOR EVERY INPUT', by the rows' own cells (each row's printed sentence says how): AsmNumbers: laid · AsmLines: laid · AsmApart: laid · AsmJoins: laid · AsmWhere: laid · AsmTexts: laid · AsmBack: laid.
  DERIVED. THE GIVEN ROWS OF THIS SEAT. 7 by the template 'for every input the law returns true; each argument reads behind the call as it read before'; 0 by the template 'total and deterministic' (their statements: YtijjamiidpikdaaDoorTotals.lean).
  GIVEN WITH THE SEED: the statements are not yours to turn. If you find one false, say at which input.
  Laid BY PROGRAM, IN A SANDBOX (cutbox-rows.mjs): the forced cells as the released guide's own fill.sh prints them over the translation cf4bfe5a683f1c79… (all of the seat's roots in one cut). By AI agents, Wed Nov 11 2026. No macro, syntax, notation, axiom, sorry.
-/
import Derived.Test.YtijjamiidpikdaaDoorChecked
import GoSem.PinnedTables
import GoSem.Claim
import GoSem.ClaimJoined
import GoSem.ClaimMapViews
import Derived.JoinedTies
import Derived.KernelRfl
namespace Go.Proofs.YtijjamiidpikdaaDoor
/- THE CELL 'sum', in the pinned program and in every row, IS THE sha256 OF THE DUMP (.gsa) THAT YtijjamiidpikdaaDoorProg.lean LOADS. Nothing in Lean hashes anything: it is a label: what it is worth is what the hold of that sum in a sandbox is worth. -/
noncomputable def Tryd.pinned : Pinned := { name := "ytijjamiidpikdaadoor", sum := "cf4bfe5a683f1c79e580c27bd5950e76176d0417ac77749f3a4d4c112cc7d8cb", checked := Tryd.checked }
namespace Rows
def none {H : Type} : Left H := { results := [], args := [] }

/- WHAT THE LISTED PACKAGE-LEVEL VARIABLES READ AS WHEN THE CALL BEGINS. Each datum BY PROGRAM (the guide's laid-datum.mjs) off the statement by which the dump's own 'gosem.cut.vars' lays the variable. In a bare row this is a premise. The card (YtijjamiidpikdaaDoorCards.lean) ties it to the program's text. -/
def laid_transom_isa_uses {H : Type} : DataW H := .agg [.lit (.int .i64 0), .lit (.int .i64 5), .lit (.int .i64 5), .lit (.int .i64 3), .lit (.int .i64 3), .lit (.int .i64 3), .lit (.int .i64 3), .lit (.int .i64 3), .lit (.int .i64 3), .lit (.int .i64 3), .lit (.int .i64 3), .lit (.int .i64 3), .lit (.int .i64 3), .lit (.int .i64 5), .lit (.int .i64 7), .lit (.int .i64 7), .lit (.int .i64 7), .lit (.int .i64 7), .lit (.int .i64 4), .lit (.int .i64 5), .lit (.int .i64 1), .lit (.int .i64 7), .lit (.int .i64 7), .lit (.int .i64 7), .lit (.int .i64 0)]
def laid_transom_asm_names {H : Type} : DataW H := .agg [.lit (.string []), .lit (.string [108, 105]), .lit (.string [108, 117, 105]), .lit (.string [109, 111, 118]), .lit (.string [97, 100, 100]), .lit (.string [115, 117, 98]), .lit (.string [109, 117, 108]), .lit (.string [100, 105, 118]), .lit (.string [97, 110, 100]), .lit (.string [111, 114]), .lit (.string [120, 111, 114]), .lit (.string [115, 104, 108]), .lit (.string [115, 104, 114]), .lit (.string [97, 100, 100, 105]), .lit (.string [108, 119]), .lit (.string [115, 119]), .lit (.string [108, 98]), .lit (.string [115, 98]), .lit (.string [106, 109, 112]), .lit (.string [106, 97, 108]), .lit (.string [106, 114]), .lit (.string [98, 101, 113]), .lit (.string [98, 108, 116]), .lit (.string [98, 108, 116, 117]), .lit (.string [115, 121, 115])]
def laid_transom_asm_uses {H : Type} : DataW H := .agg [.lit (.string []), .lit (.string [97, 105]), .lit (.string [97, 105]), .lit (.string [97, 98]), .lit (.string [97, 98]), .lit (.string [97, 98]), .lit (.string [97, 98]), .lit (.string [97, 98]), .lit (.string [97, 98]), .lit (.string [97, 98]), .lit (.string [97, 98]), .lit (.string [97, 98]), .lit (.string [97, 98]), .lit (.string [97, 105]), .lit (.string [97, 98, 105]), .lit (.string [97, 98, 105]), .lit (.string [97, 98, 105]), .lit (.string [97, 98, 105]), .lit (.string [105]), .lit (.string [97, 105]), .lit (.string [97]), .lit (.string [97, 98, 105]), .lit (.string [97, 98, 105]), .lit (.string [97, 98, 105]), .lit (.string [])]
def laid_unicode_utf8_acceptRanges {H : Type} : DataW H := .agg [.agg [.lit (.int .u8 128), .lit (.int .u8 191)], .agg [.lit (.int .u8 160), .lit (.int .u8 191)], .agg [.lit (.int .u8 128), .lit (.int .u8 159)], .agg [.lit (.int .u8 144), .lit (.int .u8 191)], .agg [.lit (.int .u8 128), .lit (.int .u8 143)], .agg [.lit (.int .u8 0), .lit (.int .u8 0)], .agg [.lit (.int .u8 0), .lit (.int .u8 0)], .agg [.lit (.int .u8 0), .lit (.int .u8 0)], .agg [.lit (.int .u8 0), .lit (.int .u8 0)], .agg [.lit (.int .u8 0), .lit (.int .u8 0)], .agg [.lit (.int .u8 0), .lit (.int .u8 0)], .agg [.lit (.int .u8 0), .lit (.int .u8 0)], .agg [.lit (.int .u8 0), .lit (.int .u8 0)], .agg [.lit (.int .u8 0), .lit (.int .u8 0)], .agg [.lit (.int .u8 0), .lit (.int .u8 0)], .agg [.lit (.int .u8 0), .lit (.int .u8 0)]]
/-- One of Go's own tables, pinned by name: the form's constant. -/
def laid_unicode_utf8_first : DataW Unit := Go.Pinned.utf8First

/-- 'transomlaw19.AsmNumbers': WHATEVER THE INPUT: true; the input reads as it did. -/
def asmNumbersSpec : ChangeSpec := { name := "asmNumbers", fn := fun _ => fun
  | [d1, d2] => { results := [.lit (.bool true)], args := [d1, d2] }
  | _ => none }
def asmNumbersRow : OpenClaim := { program := "ytijjamiidpikdaadoor", sum := "cf4bfe5a683f1c79e580c27bd5950e76176d0417ac77749f3a4d4c112cc7d8cb", func := "transom/transomlaw19.AsmNumbers", spec := "asmNumbers", named := ["transom/asm.names", "transom/asm.uses", "transom/isa.uses"], apart := false, laid := [("transom/isa.uses", laid_transom_isa_uses), ("transom/asm.names", laid_transom_asm_names), ("transom/asm.uses", laid_transom_asm_uses)] }
def AsmNumbersSaid : Prop := asmNumbersRow.holds Tryd.pinned (OpenSpec.ofChange asmNumbersSpec)

/-- ITS FALSE NEIGHBOUR: 'it returns false'. Refute it at one input. -/
def asmNumbersWrong : ChangeSpec := { name := "asmNumbers", fn := fun _ => fun
  | [d1, d2] => { results := [.lit (.bool false)], args := [d1, d2] }
  | _ => none }
def AsmNumbersWrongFalsely : Prop := asmNumbersRow.holds Tryd.pinned (OpenSpec.ofChange asmNumbersWrong)

/-- 'transomlaw19.AsmLines': WHATEVER THE INPUT: true; the input reads as it did. -/
def asmLinesSpec : ChangeSpec := { name := "asmLines", fn := fun _ => fun
  | [d1, d2] => { results := [.lit (.bool true)], args := [d1, d2] }
  | _ => none }
def asmLinesRow : OpenClaim := { program := "ytijjamiidpikdaadoor", sum := "cf4bfe5a683f1c79e580c27bd5950e76176d0417ac77749f3a4d4c112cc7d8cb", func := "transom/transomlaw19.AsmLines", spec := "asmLines", inPlace := ["internal/bytealg.IndexByteString", "internal/bytealg.IndexString"], unfollowed := true, recurses := true, named := ["transom/asm.names", "transom/asm.uses", "transom/isa.uses", "unicode/utf8.first", "unicode/utf8.acceptRanges", "internal/bytealg.MaxLen"], apart := false, laid := [("unicode/utf8.acceptRanges", laid_unicode_utf8_acceptRanges), ("transom/isa.uses", laid_transom_isa_uses), ("transom/asm.names", laid_transom_asm_names), ("transom/asm.uses", laid_transom_asm_uses), ("unicode/utf8.first", laid_unicode_utf8_first)] }
def AsmLinesSaid : Prop := asmLinesRow.holds Tryd.pinned (OpenSpec.ofChange asmLinesSpec)

/-- ITS FALSE NEIGHBOUR: 'it returns false'. Refute it at one input. -/
def asmLinesWrong : ChangeSpec := { name := "asmLines", fn := fun _ => fun
  | [d1, d2] => { results := [.lit (.bool false)], args := [d1, d2] }
  | _ => none }
def AsmLinesWrongFalsely : Prop := asmLinesRow.holds Tryd.pinned (OpenSpec.ofChange asmLinesWrong)

/-- 'transomlaw19.AsmApart': WHATEVER THE INPUT: true; the input reads as it did. -/
def asmApartSpec : ChangeSpec := { name := "asmApart", fn := fun _ => fun
  | [d1, d2] => { results := [.lit (.bool true)], args := [d1, d2] }
  | _ => none }
def asmApartRow : OpenClaim := { program := "ytijjamiidpikdaadoor", sum := "cf4bfe5a683f1c79e580c27bd5950e76176d0417ac77749f3a4d4c112cc7d8cb", func := "transom/transomlaw19.AsmApart", spec := "asmApart", inPlace := ["internal/bytealg.IndexByteString", "internal/bytealg.IndexString"], unfollowed := true, recurses := true, named := ["transom/asm.names", "transom/asm.uses", "transom/isa.uses", "unicode/utf8.first", "unicode/utf8.acceptRanges", "internal/bytealg.MaxLen"], apart := false, laid := [("unicode/utf8.acceptRanges", laid_unicode_utf8_acceptRanges), ("transom/isa.uses", laid_transom_isa_uses), ("transom/asm.names", laid_transom_asm_names), ("transom/asm.uses", laid_transom_asm_uses), ("unicode/utf8.first", laid_unicode_utf8_first)] }
def AsmApartSaid : Prop := asmApartRow.holds Tryd.pinned (OpenSpec.ofChange asmApartSpec)

/-- ITS FALSE NEIGHBOUR: 'it returns false'. Refute it at one input. -/
def asmApartWrong : ChangeSpec := { name := "asmApart", fn := fun _ => fun
  | [d1, d2] => { results := [.lit (.bool false)], args := [d1, d2] }
  | _ => none }
def AsmApartWrongFalsely : Prop := asmApartRow.holds Tryd.pinned (OpenSpec.ofChange asmApartWrong)

/-- 'transomlaw19.AsmJoins': WHATEVER THE INPUT: true; the input reads as it did. -/
def asmJoinsSpec : ChangeSpec := { name := "asmJoins", fn := fun _ => fun
  | [d1, d2] => { results := [.lit (.bool true)], args := [d1, d2] }
  | _ => none }
def asmJoinsRow : OpenClaim := { program := "ytijjamiidpikdaadoor", sum := "cf4bfe5a683f1c79e580c27bd5950e76176d0417ac77749f3a4d4c112cc7d8cb", func := "transom/transomlaw19.AsmJoins", spec := "asmJoins", inPlace := ["internal/bytealg.IndexByteString", "internal/bytealg.IndexString"], unfollowed := true, recurses := true, named := ["transom/asm.names", "transom/asm.uses", "transom/isa.uses", "internal/bytealg.MaxLen", "unicode/utf8.first", "unicode/utf8.acceptRanges"], apart := false, laid := [("unicode/utf8.acceptRanges", laid_unicode_utf8_acceptRanges), ("transom/isa.uses", laid_transom_isa_uses), ("transom/asm.names", laid_transom_asm_names), ("transom/asm.uses", laid_transom_asm_uses), ("unicode/utf8.first", laid_unicode_utf8_first)] }
def AsmJoinsSaid : Prop := asmJoinsRow.holds Tryd.pinned (OpenSpec.ofChange asmJoinsSpec)

/-- ITS FALSE NEIGHBOUR: 'it returns false'. Refute it at one input. -/
def asmJoinsWrong : ChangeSpec := { name := "asmJoins", fn := fun _ => fun
  | [d1, d2] => { results := [.lit (.bool false)], args := [d1, d2] }
  | _ => none }
def AsmJoinsWrongFalsely : Prop := asmJoinsRow.holds Tryd.pinned (OpenSpec.ofChange asmJoinsWrong)

/-- 'transomlaw19.AsmWhere': WHATEVER THE INPUT: true; the input reads as it did. -/
def asmWhereSpec : ChangeSpec := { name := "asmWhere", fn := fun _ => fun
  | [d] => { results := [.lit (.bool true)], args := [d] }
  | _ => none }
def asmWhereRow : OpenClaim := { program := "ytijjamiidpikdaadoor", sum := "cf4bfe5a683f1c79e580c27bd5950e76176d0417ac77749f3a4d4c112cc7d8cb", func := "transom/transomlaw19.AsmWhere", spec := "asmWhere", inPlace := ["internal/bytealg.IndexByteString", "internal/bytealg.IndexString"], unfollowed := true, recurses := true, named := ["transom/asm.names", "transom/asm.uses", "transom/isa.uses", "internal/bytealg.MaxLen", "unicode/utf8.first", "unicode/utf8.acceptRanges"], apart := false, laid := [("unicode/utf8.acceptRanges", laid_unicode_utf8_acceptRanges), ("transom/isa.uses", laid_transom_isa_uses), ("transom/asm.names", laid_transom_asm_names), ("transom/asm.uses", laid_transom_asm_uses), ("unicode/utf8.first", laid_unicode_utf8_first)] }
def AsmWhereSaid : Prop := asmWhereRow.holds Tryd.pinned (OpenSpec.ofChange asmWhereSpec)

/-- ITS FALSE NEIGHBOUR: 'it returns false'. Refute it at one input. -/
def asmWhereWrong : ChangeSpec := { name := "asmWhere", fn := fun _ => fun
  | [d] => { results := [.lit (.bool false)], args := [d] }
  | _ => none }
def AsmWhereWrongFalsely : Prop := asmWhereRow.holds Tryd.pinned (OpenSpec.ofChange asmWhereWrong)

/-- 'transomlaw19.AsmTexts': WHATEVER THE INPUT: true; the input reads as it did. -/
def asmTextsSpec : ChangeSpec := { name := "asmTexts", fn := fun _ => fun
  | [d1, d2] => { results := [.lit (.bool true)], args := [d1, d2] }
  | _ => none }
def asmTextsRow : OpenClaim := { program := "ytijjamiidpikdaadoor", sum := "cf4bfe5a683f1c79e580c27bd5950e76176d0417ac77749f3a4d4c112cc7d8cb", func := "transom/transomlaw19.AsmTexts", spec := "asmTexts", inPlace := ["internal/abi.NoEscape", "internal/bytealg.IndexByteString", "internal/bytealg.IndexString"], unfollowed := true, recurses := true, named := ["transom/asm.names", "transom/asm.uses", "transom/isa.uses", "internal/bytealg.MaxLen", "unicode/utf8.first", "unicode/utf8.acceptRanges"], apart := false, laid := [("unicode/utf8.acceptRanges", laid_unicode_utf8_acceptRanges), ("transom/isa.uses", laid_transom_isa_uses), ("transom/asm.names", laid_transom_asm_names), ("transom/asm.uses", laid_transom_asm_uses), ("unicode/utf8.first", laid_unicode_utf8_first)] }
def AsmTextsSaid : Prop := asmTextsRow.holds Tryd.pinned (OpenSpec.ofChange asmTextsSpec)

/-- ITS FALSE NEIGHBOUR: 'it returns false'. Refute it at one input. -/
def asmTextsWrong : ChangeSpec := { name := "asmTexts", fn := fun _ => fun
  | [d1, d2] => { results := [.lit (.bool false)], args := [d1, d2] }
  | _ => none }
def AsmTextsWrongFalsely : Prop := asmTextsRow.holds Tryd.pinned (OpenSpec.ofChange asmTextsWrong)

/-- 'transomlaw19.AsmBack': WHATEVER THE INPUT: true; the input reads as it did. -/
def asmBackSpec : ChangeSpec := { name := "asmBack", fn := fun _ => fun
  | [d1, d2] => { results := [.lit (.bool true)], args := [d1, d2] }
  | _ => none }
def asmBackRow : OpenClaim := { program := "ytijjamiidpikdaadoor", sum := "cf4bfe5a683f1c79e580c27bd5950e76176d0417ac77749f3a4d4c112cc7d8cb", func := "transom/transomlaw19.AsmBack", spec := "asmBack", inPlace := ["internal/abi.NoEscape", "internal/bytealg.IndexByteString", "internal/bytealg.IndexString"], unfollowed := true, recurses := true, named := ["transom/asm.names", "transom/asm.uses", "transom/isa.uses", "internal/bytealg.MaxLen", "unicode/utf8.first", "unicode/utf8.acceptRanges"], apart := false, laid := [("unicode/utf8.acceptRanges", laid_unicode_utf8_acceptRanges), ("transom/isa.uses", laid_transom_isa_uses), ("transom/asm.names", laid_transom_asm_names), ("transom/asm.uses", laid_transom_asm_uses), ("unicode/utf8.first", laid_unicode_utf8_first)] }
def AsmBackSaid : Prop := asmBackRow.holds Tryd.pinned (OpenSpec.ofChange asmBackSpec)

/-- ITS FALSE NEIGHBOUR: 'it returns false'. Refute it at one input. -/
def asmBackWrong : ChangeSpec := { name := "asmBack", fn := fun _ => fun
  | [d1, d2] => { results := [.lit (.bool false)], args := [d1, d2] }
  | _ => none }
def AsmBackWrongFalsely : Prop := asmBackRow.holds Tryd.pinned (OpenSpec.ofChange asmBackWrong)

/- THE SECOND FORM. 'bulk': how many values and letters a reading holds, each counted each time it is reached (what is shared counts as often as it is met; a slice's spare places count too). A statement '..UptoSaid' is the law's where the arguments, and the package variables that the reading takes, are together of bulk at most 1048576: NARROWER than '..Said'. Prove '..Said' where nothing that the law and all that it calls make is longer than what came in: it says more and counts as full. Else prove '..UptoSaid'. A law counts once. -/
mutual
def uptoBulk {H : Type} : DataW H → Nat
  | .lit (.string bytes) => bytes.length + 1
  | .lit _ => 1
  | .nil => 1
  | .ptr d => uptoBulk d + 1
  | .slice elems spare => uptoBulkAll elems + uptoBulkAll spare + 1
  | .agg parts => uptoBulkAll parts + 1
  | .iface _ d => uptoBulk d + 1
  | .map entries => uptoBulkEntries entries + 1
  | .held _ => 1
def uptoBulkAll {H : Type} : List (DataW H) → Nat
  | [] => 0
  | d :: r => uptoBulk d + uptoBulkAll r
def uptoBulkEntries {H : Type} : List (Lit × DataW H) → Nat
  | [] => 0
  | x :: r => uptoBulkEntry x + uptoBulkEntries r
def uptoBulkEntry {H : Type} : Lit × DataW H → Nat
  | (.string bytes, d) => bytes.length + uptoBulk d + 1
  | (_, d) => uptoBulk d + 1
 end
def uptoSmall : (H : Type) → List (DataW H) → Bool := fun _ ds => decide (uptoBulkAll ds ≤ 1048576)
def OpenSpec.upto (s : _root_.Go.ChangeSpec) : _root_.Go.OpenSpec := { _root_.Go.OpenSpec.ofChange s with cond := some uptoSmall }

/-- 'transomlaw19.AsmNumbers', WHERE WHAT IT READS IS OF BULK AT MOST 1048576: true; the input reads as it did. -/
def asmNumbersUptoRow : OpenClaim := { program := "ytijjamiidpikdaadoor", sum := "cf4bfe5a683f1c79e580c27bd5950e76176d0417ac77749f3a4d4c112cc7d8cb", func := "transom/transomlaw19.AsmNumbers", spec := "asmNumbers", named := ["transom/asm.names", "transom/asm.uses", "transom/isa.uses"], apart := false, laid := [("transom/isa.uses", laid_transom_isa_uses), ("transom/asm.names", laid_transom_asm_names), ("transom/asm.uses", laid_transom_asm_uses)], narrowed := true }
def AsmNumbersUptoSaid : Prop := asmNumbersUptoRow.holds Tryd.pinned (OpenSpec.upto asmNumbersSpec)

/-- 'transomlaw19.AsmLines', WHERE WHAT IT READS IS OF BULK AT MOST 1048576: true; the input reads as it did. -/
def asmLinesUptoRow : OpenClaim := { program := "ytijjamiidpikdaadoor", sum := "cf4bfe5a683f1c79e580c27bd5950e76176d0417ac77749f3a4d4c112cc7d8cb", func := "transom/transomlaw19.AsmLines", spec := "asmLines", inPlace := ["internal/bytealg.IndexByteString", "internal/bytealg.IndexString"], unfollowed := true, recurses := true, named := ["transom/asm.names", "transom/asm.uses", "transom/isa.uses", "unicode/utf8.first", "unicode/utf8.acceptRanges", "internal/bytealg.MaxLen"], apart := false, laid := [("unicode/utf8.acceptRanges", laid_unicode_utf8_acceptRanges), ("transom/isa.uses", laid_transom_isa_uses), ("transom/asm.names", laid_transom_asm_names), ("transom/asm.uses", laid_transom_asm_uses), ("unicode/utf8.first", laid_unicode_utf8_first)], narrowed := true }
def AsmLinesUptoSaid : Prop := asmLinesUptoRow.holds Tryd.pinned (OpenSpec.upto asmLinesSpec)

/-- 'transomlaw19.AsmApart', WHERE WHAT IT READS IS OF BULK AT MOST 1048576: true; the input reads as it did. -/
def asmApartUptoRow : OpenClaim := { program := "ytijjamiidpikdaadoor", sum := "cf4bfe5a683f1c79e580c27bd5950e76176d0417ac77749f3a4d4c112cc7d8cb", func := "transom/transomlaw19.AsmApart", spec := "asmApart", inPlace := ["internal/bytealg.IndexByteString", "internal/bytealg.IndexString"], unfollowed := true, recurses := true, named := ["transom/asm.names", "transom/asm.uses", "transom/isa.uses", "unicode/utf8.first", "unicode/utf8.acceptRanges", "internal/bytealg.MaxLen"], apart := false, laid := [("unicode/utf8.acceptRanges", laid_unicode_utf8_acceptRanges), ("transom/isa.uses", laid_transom_isa_uses), ("transom/asm.names", laid_transom_asm_names), ("transom/asm.uses", laid_transom_asm_uses), ("unicode/utf8.first", laid_unicode_utf8_first)], narrowed := true }
def AsmApartUptoSaid : Prop := asmApartUptoRow.holds Tryd.pinned (OpenSpec.upto asmApartSpec)

/-- 'transomlaw19.AsmJoins', WHERE WHAT IT READS IS OF BULK AT MOST 1048576: true; the input reads as it did. -/
def asmJoinsUptoRow : OpenClaim := { program := "ytijjamiidpikdaadoor", sum := "cf4bfe5a683f1c79e580c27bd5950e76176d0417ac77749f3a4d4c112cc7d8cb", func := "transom/transomlaw19.AsmJoins", spec := "asmJoins", inPlace := ["internal/bytealg.IndexByteString", "internal/bytealg.IndexString"], unfollowed := true, recurses := true, named := ["transom/asm.names", "transom/asm.uses", "transom/isa.uses", "internal/bytealg.MaxLen", "unicode/utf8.first", "unicode/utf8.acceptRanges"], apart := false, laid := [("unicode/utf8.acceptRanges", laid_unicode_utf8_acceptRanges), ("transom/isa.uses", laid_transom_isa_uses), ("transom/asm.names", laid_transom_asm_names), ("transom/asm.uses", laid_transom_asm_uses), ("unicode/utf8.first", laid_unicode_utf8_first)], narrowed := true }
def AsmJoinsUptoSaid : Prop := asmJoinsUptoRow.holds Tryd.pinned (OpenSpec.upto asmJoinsSpec)

/-- 'transomlaw19.AsmWhere', WHERE WHAT IT READS IS OF BULK AT MOST 1048576: true; the input reads as it did. -/
def asmWhereUptoRow : OpenClaim := { program := "ytijjamiidpikdaadoor", sum := "cf4bfe5a683f1c79e580c27bd5950e76176d0417ac77749f3a4d4c112cc7d8cb", func := "transom/transomlaw19.AsmWhere", spec := "asmWhere", inPlace := ["internal/bytealg.IndexByteString", "internal/bytealg.IndexString"], unfollowed := true, recurses := true, named := ["transom/asm.names", "transom/asm.uses", "transom/isa.uses", "internal/bytealg.MaxLen", "unicode/utf8.first", "unicode/utf8.acceptRanges"], apart := false, laid := [("unicode/utf8.acceptRanges", laid_unicode_utf8_acceptRanges), ("transom/isa.uses", laid_transom_isa_uses), ("transom/asm.names", laid_transom_asm_names), ("transom/asm.uses", laid_transom_asm_uses), ("unicode/utf8.first", laid_unicode_utf8_first)], narrowed := true }
def AsmWhereUptoSaid : Prop := asmWhereUptoRow.holds Tryd.pinned (OpenSpec.upto asmWhereSpec)

/-- 'transomlaw19.AsmTexts', WHERE WHAT IT READS IS OF BULK AT MOST 1048576: true; the input reads as it did. -/
def asmTextsUptoRow : OpenClaim := { program := "ytijjamiidpikdaadoor", sum := "cf4bfe5a683f1c79e580c27bd5950e76176d0417ac77749f3a4d4c112cc7d8cb", func := "transom/transomlaw19.AsmTexts", spec := "asmTexts", inPlace := ["internal/abi.NoEscape", "internal/bytealg.IndexByteString", "internal/bytealg.IndexString"], unfollowed := true, recurses := true, named := ["transom/asm.names", "transom/asm.uses", "transom/isa.uses", "internal/bytealg.MaxLen", "unicode/utf8.first", "unicode/utf8.acceptRanges"], apart := false, laid := [("unicode/utf8.acceptRanges", laid_unicode_utf8_acceptRanges), ("transom/isa.uses", laid_transom_isa_uses), ("transom/asm.names", laid_transom_asm_names), ("transom/asm.uses", laid_transom_asm_uses), ("unicode/utf8.first", laid_unicode_utf8_first)], narrowed := true }
def AsmTextsUptoSaid : Prop := asmTextsUptoRow.holds Tryd.pinned (OpenSpec.upto asmTextsSpec)

/-- 'transomlaw19.AsmBack', WHERE WHAT IT READS IS OF BULK AT MOST 1048576: true; the input reads as it did. -/
def asmBackUptoRow : OpenClaim := { program := "ytijjamiidpikdaadoor", sum := "cf4bfe5a683f1c79e580c27bd5950e76176d0417ac77749f3a4d4c112cc7d8cb", func := "transom/transomlaw19.AsmBack", spec := "asmBack", inPlace := ["internal/abi.NoEscape", "internal/bytealg.IndexByteString", "internal/bytealg.IndexString"], unfollowed := true, recurses := true, named := ["transom/asm.names", "transom/asm.uses", "transom/isa.uses", "internal/bytealg.MaxLen", "unicode/utf8.first", "unicode/utf8.acceptRanges"], apart := false, laid := [("unicode/utf8.acceptRanges", laid_unicode_utf8_acceptRanges), ("transom/isa.uses", laid_transom_isa_uses), ("transom/asm.names", laid_transom_asm_names), ("transom/asm.uses", laid_transom_asm_uses), ("unicode/utf8.first", laid_unicode_utf8_first)], narrowed := true }
def AsmBackUptoSaid : Prop := asmBackUptoRow.holds Tryd.pinned (OpenSpec.upto asmBackSpec)

end Rows
end Go.Proofs.YtijjamiidpikdaaDoor
