/-
  DERIVED. GIVEN WITH THE SEED: THE CARDS: each row of YtjiamhoabbjkmaaDoorRows.lean that lists a variable, with what it lists TIED to the program's text (the seventh form; the later family's looks); each row that meets fmt, with fmt's text TOLD by the authors' own Lean function (tested against real Go, not proved from fmt's source: count such statements apart). THE CARD IS WHAT COUNTS. Prove the row's statement (the work); the ties are given (YtjiamhoabbjkmaaDoorTie.lean); close each card by the builder's one call (the guide's Derived/Test/ToyasCard.lean, 'card_holds'). Laid BY PROGRAM, IN A SANDBOX (cutbox-door.mjs). By AI agents, Wed Nov 11 2026. No macro, syntax, notation, axiom, sorry.
-/
import Derived.Test.YtjiamhoabbjkmaaDoorRows
import GoSem.ClaimSeven
namespace Go.Proofs.YtjiamhoabbjkmaaDoor
namespace Rows

/-- THE TIED CARD OF 'transomlaw01.IsaApart'. -/
def isaApartCard : Claim7 := { stood := { row := isaApartRow, standIns := [], harness := (true, "1574a9e5ab853650b3ddfbf7e190ff1185c6dd84d48f34625296536a99e3ac3b"), looks := false }, kinds := [], alts := [], laidByText := true, laidKinds := [.data], laidTests := true, laidLooks := .later }
def IsaApartCardSaid : Prop := Claim7.holds Tryd.pinned (.plain (OpenSpec.ofChange isaApartSpec)) isaApartCard

/-- THE TIED CARD OF 'transomlaw01.IsaFields'. -/
def isaFieldsCard : Claim7 := { stood := { row := isaFieldsRow, standIns := [], harness := (true, "1574a9e5ab853650b3ddfbf7e190ff1185c6dd84d48f34625296536a99e3ac3b"), looks := false }, kinds := [], alts := [], laidByText := true, laidKinds := [.data], laidTests := true, laidLooks := .later }
def IsaFieldsCardSaid : Prop := Claim7.holds Tryd.pinned (.plain (OpenSpec.ofChange isaFieldsSpec)) isaFieldsCard

/-- THE TIED CARD OF 'transomlaw01.IsaWords'. -/
def isaWordsCard : Claim7 := { stood := { row := isaWordsRow, standIns := [], harness := (true, "1574a9e5ab853650b3ddfbf7e190ff1185c6dd84d48f34625296536a99e3ac3b"), looks := false }, kinds := [], alts := [], laidByText := true, laidKinds := [.data], laidTests := true, laidLooks := .later }
def IsaWordsCardSaid : Prop := Claim7.holds Tryd.pinned (.plain (OpenSpec.ofChange isaWordsSpec)) isaWordsCard

/-- THE TIED CARD OF 'transomlaw01.IsaBack'. -/
def isaBackCard : Claim7 := { stood := { row := isaBackRow, standIns := [], harness := (true, "1574a9e5ab853650b3ddfbf7e190ff1185c6dd84d48f34625296536a99e3ac3b"), looks := false }, kinds := [], alts := [], laidByText := true, laidKinds := [.data], laidTests := true, laidLooks := .later }
def IsaBackCardSaid : Prop := Claim7.holds Tryd.pinned (.plain (OpenSpec.ofChange isaBackSpec)) isaBackCard

/-- THE TIED CARD OF 'transomlaw01.IsaRegs'. -/
def isaRegsCard : Claim7 := { stood := { row := isaRegsRow, standIns := [], harness := (true, "1574a9e5ab853650b3ddfbf7e190ff1185c6dd84d48f34625296536a99e3ac3b"), looks := false }, kinds := [], alts := [], laidByText := true, laidKinds := [.data], laidTests := true, laidLooks := .later }
def IsaRegsCardSaid : Prop := Claim7.holds Tryd.pinned (.plain (OpenSpec.ofChange isaRegsSpec)) isaRegsCard

/-- THE TIED CARD OF 'transomlaw01.IsaCuts'. -/
def isaCutsCard : Claim7 := { stood := { row := isaCutsRow, standIns := [], harness := (true, "1574a9e5ab853650b3ddfbf7e190ff1185c6dd84d48f34625296536a99e3ac3b"), looks := false }, kinds := [], alts := [], laidByText := true, laidKinds := [.data], laidTests := true, laidLooks := .later }
def IsaCutsCardSaid : Prop := Claim7.holds Tryd.pinned (.plain (OpenSpec.ofChange isaCutsSpec)) isaCutsCard

/-- THE TIED CARD OF 'transomlaw01.IsaBytes'. -/
def isaBytesCard : Claim7 := { stood := { row := isaBytesRow, standIns := [], harness := (true, "1574a9e5ab853650b3ddfbf7e190ff1185c6dd84d48f34625296536a99e3ac3b"), looks := false }, kinds := [], alts := [], laidByText := true, laidKinds := [.data], laidTests := true, laidLooks := .later }
def IsaBytesCardSaid : Prop := Claim7.holds Tryd.pinned (.plain (OpenSpec.ofChange isaBytesSpec)) isaBytesCard

/-- THE TIED CARD OF 'transomlaw01.IsaRows'. -/
def isaRowsCard : Claim7 := { stood := { row := isaRowsRow, standIns := [], harness := (true, "1574a9e5ab853650b3ddfbf7e190ff1185c6dd84d48f34625296536a99e3ac3b"), looks := false }, kinds := [], alts := [], laidByText := true, laidKinds := [.data], laidTests := true, laidLooks := .later }
def IsaRowsCardSaid : Prop := Claim7.holds Tryd.pinned (.plain (OpenSpec.ofChange isaRowsSpec)) isaRowsCard

/-- THE SECOND FORM's CARD OF 'transomlaw01.IsaApart'. -/
def isaApartUptoCard : Claim7 := { stood := { row := isaApartUptoRow, standIns := [], harness := (true, "1574a9e5ab853650b3ddfbf7e190ff1185c6dd84d48f34625296536a99e3ac3b"), looks := false }, kinds := [], alts := [], laidByText := true, laidKinds := [.data], laidTests := true, laidLooks := .later }
def IsaApartUptoCardSaid : Prop := Claim7.holds Tryd.pinned (.plain (OpenSpec.upto isaApartSpec)) isaApartUptoCard

/-- THE SECOND FORM's CARD OF 'transomlaw01.IsaFields'. -/
def isaFieldsUptoCard : Claim7 := { stood := { row := isaFieldsUptoRow, standIns := [], harness := (true, "1574a9e5ab853650b3ddfbf7e190ff1185c6dd84d48f34625296536a99e3ac3b"), looks := false }, kinds := [], alts := [], laidByText := true, laidKinds := [.data], laidTests := true, laidLooks := .later }
def IsaFieldsUptoCardSaid : Prop := Claim7.holds Tryd.pinned (.plain (OpenSpec.upto isaFieldsSpec)) isaFieldsUptoCard

/-- THE SECOND FORM's CARD OF 'transomlaw01.IsaWords'. -/
def isaWordsUptoCard : Claim7 := { stood := { row := isaWordsUptoRow, standIns := [], harness := (true, "1574a9e5ab853650b3ddfbf7e190ff1185c6dd84d48f34625296536a99e3ac3b"), looks := false }, kinds := [], alts := [], laidByText := true, laidKinds := [.data], laidTests := true, laidLooks := .later }
def IsaWordsUptoCardSaid : Prop := Claim7.holds Tryd.pinned (.plain (OpenSpec.upto isaWordsSpec)) isaWordsUptoCard

/-- THE SECOND FORM's CARD OF 'transomlaw01.IsaBack'. -/
def isaBackUptoCard : Claim7 := { stood := { row := isaBackUptoRow, standIns := [], harness := (true, "1574a9e5ab853650b3ddfbf7e190ff1185c6dd84d48f34625296536a99e3ac3b"), looks := false }, kinds := [], alts := [], laidByText := true, laidKinds := [.data], laidTests := true, laidLooks := .later }
def IsaBackUptoCardSaid : Prop := Claim7.holds Tryd.pinned (.plain (OpenSpec.upto isaBackSpec)) isaBackUptoCard

/-- THE SECOND FORM's CARD OF 'transomlaw01.IsaRegs'. -/
def isaRegsUptoCard : Claim7 := { stood := { row := isaRegsUptoRow, standIns := [], harness := (true, "1574a9e5ab853650b3ddfbf7e190ff1185c6dd84d48f34625296536a99e3ac3b"), looks := false }, kinds := [], alts := [], laidByText := true, laidKinds := [.data], laidTests := true, laidLooks := .later }
def IsaRegsUptoCardSaid : Prop := Claim7.holds Tryd.pinned (.plain (OpenSpec.upto isaRegsSpec)) isaRegsUptoCard

/-- THE SECOND FORM's CARD OF 'transomlaw01.IsaCuts'. -/
def isaCutsUptoCard : Claim7 := { stood := { row := isaCutsUptoRow, standIns := [], harness := (true, "1574a9e5ab853650b3ddfbf7e190ff1185c6dd84d48f34625296536a99e3ac3b"), looks := false }, kinds := [], alts := [], laidByText := true, laidKinds := [.data], laidTests := true, laidLooks := .later }
def IsaCutsUptoCardSaid : Prop := Claim7.holds Tryd.pinned (.plain (OpenSpec.upto isaCutsSpec)) isaCutsUptoCard

/-- THE SECOND FORM's CARD OF 'transomlaw01.IsaBytes'. -/
def isaBytesUptoCard : Claim7 := { stood := { row := isaBytesUptoRow, standIns := [], harness := (true, "1574a9e5ab853650b3ddfbf7e190ff1185c6dd84d48f34625296536a99e3ac3b"), looks := false }, kinds := [], alts := [], laidByText := true, laidKinds := [.data], laidTests := true, laidLooks := .later }
def IsaBytesUptoCardSaid : Prop := Claim7.holds Tryd.pinned (.plain (OpenSpec.upto isaBytesSpec)) isaBytesUptoCard

/-- THE SECOND FORM's CARD OF 'transomlaw01.IsaRows'. -/
def isaRowsUptoCard : Claim7 := { stood := { row := isaRowsUptoRow, standIns := [], harness := (true, "1574a9e5ab853650b3ddfbf7e190ff1185c6dd84d48f34625296536a99e3ac3b"), looks := false }, kinds := [], alts := [], laidByText := true, laidKinds := [.data], laidTests := true, laidLooks := .later }
def IsaRowsUptoCardSaid : Prop := Claim7.holds Tryd.pinned (.plain (OpenSpec.upto isaRowsSpec)) isaRowsUptoCard
end Rows
end Go.Proofs.YtjiamhoabbjkmaaDoor
