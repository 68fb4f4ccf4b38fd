/-
  DERIVED. GIVEN WITH THE SEED: THE CARDS: each row of YtijjamiidpikdaaDoorRows.lean that lists a variable, with what it lists TIED to the program's text (the seventh form; the later family's looks); each row that meets fmt, with fmt's text TOLD by the authors' own Lean function (tested against real Go, not proved from fmt's source: count such statements apart). THE CARD IS WHAT COUNTS. Prove the row's statement (the work); the ties are given (YtijjamiidpikdaaDoorTie.lean); close each card by the builder's one call (the guide's Derived/Test/ToyasCard.lean, 'card_holds'). Laid BY PROGRAM, IN A SANDBOX (cutbox-door.mjs). By AI agents, Wed Nov 11 2026. No macro, syntax, notation, axiom, sorry.
-/
import Derived.Test.YtijjamiidpikdaaDoorRows
import GoSem.ClaimSeven
namespace Go.Proofs.YtijjamiidpikdaaDoor
namespace Rows

/-- THE TIED CARD OF 'transomlaw19.AsmNumbers'. -/
def asmNumbersCard : Claim7 := { stood := { row := asmNumbersRow, standIns := [], harness := (true, "1385e560410c4cea1a27542565163ecc808943ba205e7add0fc4cd300ebf7c22"), looks := false }, kinds := [], alts := [], laidByText := true, laidKinds := [.data, .data, .data], laidTests := true, laidLooks := .later }
def AsmNumbersCardSaid : Prop := Claim7.holds Tryd.pinned (.plain (OpenSpec.ofChange asmNumbersSpec)) asmNumbersCard

/-- THE TIED CARD OF 'transomlaw19.AsmLines'. -/
def asmLinesCard : Claim7 := { stood := { row := asmLinesRow, standIns := [], harness := (true, "1385e560410c4cea1a27542565163ecc808943ba205e7add0fc4cd300ebf7c22"), looks := false }, kinds := [], alts := [], laidByText := true, laidKinds := [.data, .data, .data, .data, .pinned], laidTests := true, laidLooks := .later }
def AsmLinesCardSaid : Prop := Claim7.holds Tryd.pinned (.plain (OpenSpec.ofChange asmLinesSpec)) asmLinesCard

/-- THE TIED CARD OF 'transomlaw19.AsmApart'. -/
def asmApartCard : Claim7 := { stood := { row := asmApartRow, standIns := [], harness := (true, "1385e560410c4cea1a27542565163ecc808943ba205e7add0fc4cd300ebf7c22"), looks := false }, kinds := [], alts := [], laidByText := true, laidKinds := [.data, .data, .data, .data, .pinned], laidTests := true, laidLooks := .later }
def AsmApartCardSaid : Prop := Claim7.holds Tryd.pinned (.plain (OpenSpec.ofChange asmApartSpec)) asmApartCard

/-- THE TIED CARD OF 'transomlaw19.AsmJoins'. -/
def asmJoinsCard : Claim7 := { stood := { row := asmJoinsRow, standIns := [], harness := (true, "1385e560410c4cea1a27542565163ecc808943ba205e7add0fc4cd300ebf7c22"), looks := false }, kinds := [], alts := [], laidByText := true, laidKinds := [.data, .data, .data, .data, .pinned], laidTests := true, laidLooks := .later }
def AsmJoinsCardSaid : Prop := Claim7.holds Tryd.pinned (.plain (OpenSpec.ofChange asmJoinsSpec)) asmJoinsCard

/-- THE TIED CARD OF 'transomlaw19.AsmWhere'. -/
def asmWhereCard : Claim7 := { stood := { row := asmWhereRow, standIns := [], harness := (true, "1385e560410c4cea1a27542565163ecc808943ba205e7add0fc4cd300ebf7c22"), looks := false }, kinds := [], alts := [], laidByText := true, laidKinds := [.data, .data, .data, .data, .pinned], laidTests := true, laidLooks := .later }
def AsmWhereCardSaid : Prop := Claim7.holds Tryd.pinned (.plain (OpenSpec.ofChange asmWhereSpec)) asmWhereCard

/-- THE TIED CARD OF 'transomlaw19.AsmTexts'. -/
def asmTextsCard : Claim7 := { stood := { row := asmTextsRow, standIns := [], harness := (true, "1385e560410c4cea1a27542565163ecc808943ba205e7add0fc4cd300ebf7c22"), looks := false }, kinds := [], alts := [], laidByText := true, laidKinds := [.data, .data, .data, .data, .pinned], laidTests := true, laidLooks := .later }
def AsmTextsCardSaid : Prop := Claim7.holds Tryd.pinned (.plain (OpenSpec.ofChange asmTextsSpec)) asmTextsCard

/-- THE TIED CARD OF 'transomlaw19.AsmBack'. -/
def asmBackCard : Claim7 := { stood := { row := asmBackRow, standIns := [], harness := (true, "1385e560410c4cea1a27542565163ecc808943ba205e7add0fc4cd300ebf7c22"), looks := false }, kinds := [], alts := [], laidByText := true, laidKinds := [.data, .data, .data, .data, .pinned], laidTests := true, laidLooks := .later }
def AsmBackCardSaid : Prop := Claim7.holds Tryd.pinned (.plain (OpenSpec.ofChange asmBackSpec)) asmBackCard

/-- THE SECOND FORM's CARD OF 'transomlaw19.AsmNumbers'. -/
def asmNumbersUptoCard : Claim7 := { stood := { row := asmNumbersUptoRow, standIns := [], harness := (true, "1385e560410c4cea1a27542565163ecc808943ba205e7add0fc4cd300ebf7c22"), looks := false }, kinds := [], alts := [], laidByText := true, laidKinds := [.data, .data, .data], laidTests := true, laidLooks := .later }
def AsmNumbersUptoCardSaid : Prop := Claim7.holds Tryd.pinned (.plain (OpenSpec.upto asmNumbersSpec)) asmNumbersUptoCard

/-- THE SECOND FORM's CARD OF 'transomlaw19.AsmLines'. -/
def asmLinesUptoCard : Claim7 := { stood := { row := asmLinesUptoRow, standIns := [], harness := (true, "1385e560410c4cea1a27542565163ecc808943ba205e7add0fc4cd300ebf7c22"), looks := false }, kinds := [], alts := [], laidByText := true, laidKinds := [.data, .data, .data, .data, .pinned], laidTests := true, laidLooks := .later }
def AsmLinesUptoCardSaid : Prop := Claim7.holds Tryd.pinned (.plain (OpenSpec.upto asmLinesSpec)) asmLinesUptoCard

/-- THE SECOND FORM's CARD OF 'transomlaw19.AsmApart'. -/
def asmApartUptoCard : Claim7 := { stood := { row := asmApartUptoRow, standIns := [], harness := (true, "1385e560410c4cea1a27542565163ecc808943ba205e7add0fc4cd300ebf7c22"), looks := false }, kinds := [], alts := [], laidByText := true, laidKinds := [.data, .data, .data, .data, .pinned], laidTests := true, laidLooks := .later }
def AsmApartUptoCardSaid : Prop := Claim7.holds Tryd.pinned (.plain (OpenSpec.upto asmApartSpec)) asmApartUptoCard

/-- THE SECOND FORM's CARD OF 'transomlaw19.AsmJoins'. -/
def asmJoinsUptoCard : Claim7 := { stood := { row := asmJoinsUptoRow, standIns := [], harness := (true, "1385e560410c4cea1a27542565163ecc808943ba205e7add0fc4cd300ebf7c22"), looks := false }, kinds := [], alts := [], laidByText := true, laidKinds := [.data, .data, .data, .data, .pinned], laidTests := true, laidLooks := .later }
def AsmJoinsUptoCardSaid : Prop := Claim7.holds Tryd.pinned (.plain (OpenSpec.upto asmJoinsSpec)) asmJoinsUptoCard

/-- THE SECOND FORM's CARD OF 'transomlaw19.AsmWhere'. -/
def asmWhereUptoCard : Claim7 := { stood := { row := asmWhereUptoRow, standIns := [], harness := (true, "1385e560410c4cea1a27542565163ecc808943ba205e7add0fc4cd300ebf7c22"), looks := false }, kinds := [], alts := [], laidByText := true, laidKinds := [.data, .data, .data, .data, .pinned], laidTests := true, laidLooks := .later }
def AsmWhereUptoCardSaid : Prop := Claim7.holds Tryd.pinned (.plain (OpenSpec.upto asmWhereSpec)) asmWhereUptoCard

/-- THE SECOND FORM's CARD OF 'transomlaw19.AsmTexts'. -/
def asmTextsUptoCard : Claim7 := { stood := { row := asmTextsUptoRow, standIns := [], harness := (true, "1385e560410c4cea1a27542565163ecc808943ba205e7add0fc4cd300ebf7c22"), looks := false }, kinds := [], alts := [], laidByText := true, laidKinds := [.data, .data, .data, .data, .pinned], laidTests := true, laidLooks := .later }
def AsmTextsUptoCardSaid : Prop := Claim7.holds Tryd.pinned (.plain (OpenSpec.upto asmTextsSpec)) asmTextsUptoCard

/-- THE SECOND FORM's CARD OF 'transomlaw19.AsmBack'. -/
def asmBackUptoCard : Claim7 := { stood := { row := asmBackUptoRow, standIns := [], harness := (true, "1385e560410c4cea1a27542565163ecc808943ba205e7add0fc4cd300ebf7c22"), looks := false }, kinds := [], alts := [], laidByText := true, laidKinds := [.data, .data, .data, .data, .pinned], laidTests := true, laidLooks := .later }
def AsmBackUptoCardSaid : Prop := Claim7.holds Tryd.pinned (.plain (OpenSpec.upto asmBackSpec)) asmBackUptoCard
end Rows
end Go.Proofs.YtijjamiidpikdaaDoor
