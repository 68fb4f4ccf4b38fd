/-
  DERIVED. GIVEN WITH THE SEED: THE CARDS: each row of YtaccidkgnkmagaaGreatDoorRows.lean that lists a variable, with what it lists TIED to the program's text (the seventh form; the later family's looks); each row that meets fmt, with fmt's text TOLD by the authors' own Lean function (tested against real Go, not proved from fmt's source: count such statements apart). THE CARD IS WHAT COUNTS. Prove the row's statement (the work); the ties are given (YtaccidkgnkmagaaGreatDoorTie.lean); close each card by the builder's one call (the guide's Derived/Test/ToyasCard.lean, 'card_holds'). Laid BY PROGRAM, IN A SANDBOX (cutbox-door.mjs). By AI agents, Wed Nov 11 2026. No macro, syntax, notation, axiom, sorry.
-/
import Derived.Test.YtaccidkgnkmagaaGreatDoorRows
import GoSem.ClaimSeven
namespace Go.Proofs.YtaccidkgnkmagaaGreatDoor
namespace Rows

/-- THE TIED CARD OF 'transomtop.TopGrants'. -/
def topGrantsCard : Claim7 := { stood := { row := topGrantsRow, standIns := [], harness := (true, "eeb0c57d2d79851e9c0e4dc2367223c96017b87367e873d6cf8bf2703671ee07"), looks := false }, kinds := [], alts := [], laidByText := true, laidKinds := [.data], laidTests := true, laidLooks := .later }
def TopGrantsCardSaid : Prop := Claim7.holds Tryz.pinned (.plain (OpenSpec.ofChange topGrantsSpec)) topGrantsCard

/-- THE TIED CARD OF 'transomtop.TopOdd'. -/
def topOddCard : Claim7 := { stood := { row := topOddRow, standIns := [], harness := (true, "eeb0c57d2d79851e9c0e4dc2367223c96017b87367e873d6cf8bf2703671ee07"), looks := false }, kinds := [], alts := [], laidByText := true, laidKinds := [.data], laidTests := true, laidLooks := .later }
def TopOddCardSaid : Prop := Claim7.holds Tryz.pinned (.plain (OpenSpec.ofChange topOddSpec)) topOddCard

/-- THE SECOND FORM's CARD OF 'transomtop.TopGrants'. -/
def topGrantsUptoCard : Claim7 := { stood := { row := topGrantsUptoRow, standIns := [], harness := (true, "eeb0c57d2d79851e9c0e4dc2367223c96017b87367e873d6cf8bf2703671ee07"), looks := false }, kinds := [], alts := [], laidByText := true, laidKinds := [.data], laidTests := true, laidLooks := .later }
def TopGrantsUptoCardSaid : Prop := Claim7.holds Tryz.pinned (.plain (OpenSpec.upto topGrantsSpec)) topGrantsUptoCard

/-- THE SECOND FORM's CARD OF 'transomtop.TopOdd'. -/
def topOddUptoCard : Claim7 := { stood := { row := topOddUptoRow, standIns := [], harness := (true, "eeb0c57d2d79851e9c0e4dc2367223c96017b87367e873d6cf8bf2703671ee07"), looks := false }, kinds := [], alts := [], laidByText := true, laidKinds := [.data], laidTests := true, laidLooks := .later }
def TopOddUptoCardSaid : Prop := Claim7.holds Tryz.pinned (.plain (OpenSpec.upto topOddSpec)) topOddUptoCard
end Rows
end Go.Proofs.YtaccidkgnkmagaaGreatDoor
