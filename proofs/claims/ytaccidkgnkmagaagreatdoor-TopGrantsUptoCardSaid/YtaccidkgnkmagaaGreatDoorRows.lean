/-
  NARROWER THAN 'FOR EVERY INPUT', by the rows' own cells (each row's printed sentence says how): TopGrants: laid · TopOdd: laid.
  DERIVED. THE GIVEN ROWS OF THIS SEAT. 2 by the template 'for every input the law returns true; each argument reads behind the call as it read before'; 0 by the template 'total and deterministic' (their statements: YtaccidkgnkmagaaGreatDoorTotals.lean).
  GIVEN WITH THE SEED: the statements are not yours to turn. If you find one false, say at which input.
  Laid BY PROGRAM, IN A SANDBOX (cutbox-rows.mjs): the forced cells as the released guide's own fill.sh prints them over the translation ca1f9f4c700c8084… (all of the seat's roots in one cut). By AI agents, Wed Nov 11 2026. No macro, syntax, notation, axiom, sorry.
-/
import Derived.Test.YtaccidkgnkmagaaGreatDoorChecked
import GoSem.Claim
import GoSem.ClaimJoined
import GoSem.ClaimMapViews
import Derived.JoinedTies
import Derived.KernelRfl
namespace Go.Proofs.YtaccidkgnkmagaaGreatDoor
/- THE CELL 'sum', in the pinned program and in every row, IS THE sha256 OF THE DUMP (.gsa) THAT YtaccidkgnkmagaaGreatDoorProg.lean LOADS. Nothing in Lean hashes anything: it is a label: what it is worth is what the hold of that sum in a sandbox is worth. -/
noncomputable def Tryz.pinned : Pinned := { name := "ytaccidkgnkmagaagreatdoor", sum := "ca1f9f4c700c80843dca4a8f6a6553505902fe8fd891f780d3f37aec312f9ab5", checked := Tryz.checked }
namespace Rows
def none {H : Type} : Left H := { results := [], args := [] }

/- WHAT THE LISTED PACKAGE-LEVEL VARIABLES READ AS WHEN THE CALL BEGINS. Each datum BY PROGRAM (the guide's laid-datum.mjs) off the statement by which the dump's own 'gosem.cut.vars' lays the variable. In a bare row this is a premise. The card (YtaccidkgnkmagaaGreatDoorCards.lean) ties it to the program's text. -/
def laid_transom_isa_uses {H : Type} : DataW H := .agg [.lit (.int .i64 0), .lit (.int .i64 5), .lit (.int .i64 5), .lit (.int .i64 3), .lit (.int .i64 3), .lit (.int .i64 3), .lit (.int .i64 3), .lit (.int .i64 3), .lit (.int .i64 3), .lit (.int .i64 3), .lit (.int .i64 3), .lit (.int .i64 3), .lit (.int .i64 3), .lit (.int .i64 5), .lit (.int .i64 7), .lit (.int .i64 7), .lit (.int .i64 7), .lit (.int .i64 7), .lit (.int .i64 4), .lit (.int .i64 5), .lit (.int .i64 1), .lit (.int .i64 7), .lit (.int .i64 7), .lit (.int .i64 7), .lit (.int .i64 0)]

/-- 'transomtop.TopGrants': WHATEVER THE INPUT: true; the input reads as it did. -/
def topGrantsSpec : ChangeSpec := { name := "topGrants", fn := fun _ => fun
  | [d] => { results := [.lit (.bool true)], args := [d] }
  | _ => none }
def topGrantsRow : OpenClaim := { program := "ytaccidkgnkmagaagreatdoor", sum := "ca1f9f4c700c80843dca4a8f6a6553505902fe8fd891f780d3f37aec312f9ab5", func := "transom/transomtop.TopGrants", spec := "topGrants", inPlace := ["internal/abi.NoEscape", "internal/bytealg.MakeNoZero", "slices.overlaps[transom/api.Span]", "slices.overlaps[transom/api.Proc]", "slices.overlaps[transom/api.Alarm]"], unfollowed := true, recurses := true, named := ["transom/isa.uses"], apart := false, laid := [("transom/isa.uses", laid_transom_isa_uses)] }
def TopGrantsSaid : Prop := topGrantsRow.holds Tryz.pinned (OpenSpec.ofChange topGrantsSpec)

/-- ITS FALSE NEIGHBOUR: 'it returns false'. Refute it at one input. -/
def topGrantsWrong : ChangeSpec := { name := "topGrants", fn := fun _ => fun
  | [d] => { results := [.lit (.bool false)], args := [d] }
  | _ => none }
def TopGrantsWrongFalsely : Prop := topGrantsRow.holds Tryz.pinned (OpenSpec.ofChange topGrantsWrong)

/-- 'transomtop.TopOdd': WHATEVER THE INPUT: true; the input reads as it did. -/
def topOddSpec : ChangeSpec := { name := "topOdd", fn := fun _ => fun
  | [d] => { results := [.lit (.bool true)], args := [d] }
  | _ => none }
def topOddRow : OpenClaim := { program := "ytaccidkgnkmagaagreatdoor", sum := "ca1f9f4c700c80843dca4a8f6a6553505902fe8fd891f780d3f37aec312f9ab5", func := "transom/transomtop.TopOdd", spec := "topOdd", inPlace := ["internal/abi.NoEscape", "internal/bytealg.MakeNoZero", "slices.overlaps[transom/api.Span]", "slices.overlaps[transom/api.Proc]", "slices.overlaps[transom/api.Alarm]"], unfollowed := true, recurses := true, named := ["transom/isa.uses"], apart := false, laid := [("transom/isa.uses", laid_transom_isa_uses)] }
def TopOddSaid : Prop := topOddRow.holds Tryz.pinned (OpenSpec.ofChange topOddSpec)

/-- ITS FALSE NEIGHBOUR: 'it returns false'. Refute it at one input. -/
def topOddWrong : ChangeSpec := { name := "topOdd", fn := fun _ => fun
  | [d] => { results := [.lit (.bool false)], args := [d] }
  | _ => none }
def TopOddWrongFalsely : Prop := topOddRow.holds Tryz.pinned (OpenSpec.ofChange topOddWrong)

/- THE SECOND FORM. 'bulk': how many values and letters a reading holds, each counted each time it is reached (what is shared counts as often as it is met; a slice's spare places count too). A statement '..UptoSaid' is the law's where the arguments, and the package variables that the reading takes, are together of bulk at most 1048576: NARROWER than '..Said'. Prove '..Said' where nothing that the law and all that it calls make is longer than what came in: it says more and counts as full. Else prove '..UptoSaid'. A law counts once. -/
mutual
def uptoBulk {H : Type} : DataW H → Nat
  | .lit (.string bytes) => bytes.length + 1
  | .lit _ => 1
  | .nil => 1
  | .ptr d => uptoBulk d + 1
  | .slice elems spare => uptoBulkAll elems + uptoBulkAll spare + 1
  | .agg parts => uptoBulkAll parts + 1
  | .iface _ d => uptoBulk d + 1
  | .map entries => uptoBulkEntries entries + 1
  | .held _ => 1
def uptoBulkAll {H : Type} : List (DataW H) → Nat
  | [] => 0
  | d :: r => uptoBulk d + uptoBulkAll r
def uptoBulkEntries {H : Type} : List (Lit × DataW H) → Nat
  | [] => 0
  | x :: r => uptoBulkEntry x + uptoBulkEntries r
def uptoBulkEntry {H : Type} : Lit × DataW H → Nat
  | (.string bytes, d) => bytes.length + uptoBulk d + 1
  | (_, d) => uptoBulk d + 1
 end
def uptoSmall : (H : Type) → List (DataW H) → Bool := fun _ ds => decide (uptoBulkAll ds ≤ 1048576)
def OpenSpec.upto (s : _root_.Go.ChangeSpec) : _root_.Go.OpenSpec := { _root_.Go.OpenSpec.ofChange s with cond := some uptoSmall }

/-- 'transomtop.TopGrants', WHERE WHAT IT READS IS OF BULK AT MOST 1048576: true; the input reads as it did. -/
def topGrantsUptoRow : OpenClaim := { program := "ytaccidkgnkmagaagreatdoor", sum := "ca1f9f4c700c80843dca4a8f6a6553505902fe8fd891f780d3f37aec312f9ab5", func := "transom/transomtop.TopGrants", spec := "topGrants", inPlace := ["internal/abi.NoEscape", "internal/bytealg.MakeNoZero", "slices.overlaps[transom/api.Span]", "slices.overlaps[transom/api.Proc]", "slices.overlaps[transom/api.Alarm]"], unfollowed := true, recurses := true, named := ["transom/isa.uses"], apart := false, laid := [("transom/isa.uses", laid_transom_isa_uses)], narrowed := true }
def TopGrantsUptoSaid : Prop := topGrantsUptoRow.holds Tryz.pinned (OpenSpec.upto topGrantsSpec)

/-- 'transomtop.TopOdd', WHERE WHAT IT READS IS OF BULK AT MOST 1048576: true; the input reads as it did. -/
def topOddUptoRow : OpenClaim := { program := "ytaccidkgnkmagaagreatdoor", sum := "ca1f9f4c700c80843dca4a8f6a6553505902fe8fd891f780d3f37aec312f9ab5", func := "transom/transomtop.TopOdd", spec := "topOdd", inPlace := ["internal/abi.NoEscape", "internal/bytealg.MakeNoZero", "slices.overlaps[transom/api.Span]", "slices.overlaps[transom/api.Proc]", "slices.overlaps[transom/api.Alarm]"], unfollowed := true, recurses := true, named := ["transom/isa.uses"], apart := false, laid := [("transom/isa.uses", laid_transom_isa_uses)], narrowed := true }
def TopOddUptoSaid : Prop := topOddUptoRow.holds Tryz.pinned (OpenSpec.upto topOddSpec)

end Rows
end Go.Proofs.YtaccidkgnkmagaaGreatDoor
