/-
  No cell of these rows narrows 'for every input' (looked for: loops, veiled, ifaces, maps, wideKeys, modest, calm, conditions, laid).
  DERIVED. THE GIVEN ROWS OF THIS SEAT. 7 by the template 'for every input the law returns true; each argument reads behind the call as it read before'; 0 by the template 'total and deterministic' (their statements: YtepnfhjfjjdpkaaTotals.lean).
  GIVEN WITH THE SEED: the statements are not yours to turn. If you find one false, say at which input.
  Laid BY PROGRAM, IN A SANDBOX (cutbox-rows.mjs): the forced cells as the released guide's own fill.sh prints them over the translation e9dba9de3d9ed92b… (all of the seat's roots in one cut). By AI agents, Wed Nov 11 2026. No macro, syntax, notation, axiom, sorry.
-/
import Derived.Test.YtepnfhjfjjdpkaaChecked
import GoSem.Claim
import GoSem.ClaimJoined
import GoSem.ClaimMapViews
import Derived.JoinedTies
import Derived.KernelRfl
namespace Go.Proofs.Ytepnfhjfjjdpkaa
/- THE CELL 'sum', in the pinned program and in every row, IS THE sha256 OF THE DUMP (.gsa) THAT YtepnfhjfjjdpkaaProg.lean LOADS. Nothing in Lean hashes anything: it is a label: what it is worth is what the hold of that sum in a sandbox is worth. -/
noncomputable def Try.pinned : Pinned := { name := "ytepnfhjfjjdpkaa", sum := "e9dba9de3d9ed92b897856d3f98cc5bb017631c0e293422550d5e75a67f3d30c", checked := Try.checked }
namespace Rows
def none {H : Type} : Left H := { results := [], args := [] }

/-- 'transomlaw07.PortBlind': WHATEVER THE INPUT: true; the input reads as it did. -/
def portBlindSpec : ChangeSpec := { name := "portBlind", fn := fun _ => fun
  | [d] => { results := [.lit (.bool true)], args := [d] }
  | _ => none }
def portBlindRow : OpenClaim := { program := "ytepnfhjfjjdpkaa", sum := "e9dba9de3d9ed92b897856d3f98cc5bb017631c0e293422550d5e75a67f3d30c", func := "transom/transomlaw07.PortBlind", spec := "portBlind", apart := false }
def PortBlindSaid : Prop := portBlindRow.holds Try.pinned (OpenSpec.ofChange portBlindSpec)

/-- ITS FALSE NEIGHBOUR: 'it returns false'. Refute it at one input. -/
def portBlindWrong : ChangeSpec := { name := "portBlind", fn := fun _ => fun
  | [d] => { results := [.lit (.bool false)], args := [d] }
  | _ => none }
def PortBlindWrongFalsely : Prop := portBlindRow.holds Try.pinned (OpenSpec.ofChange portBlindWrong)

/-- 'transomlaw07.PortOrder': WHATEVER THE INPUT: true; the input reads as it did. -/
def portOrderSpec : ChangeSpec := { name := "portOrder", fn := fun _ => fun
  | [d1, d2, d3] => { results := [.lit (.bool true)], args := [d1, d2, d3] }
  | _ => none }
def portOrderRow : OpenClaim := { program := "ytepnfhjfjjdpkaa", sum := "e9dba9de3d9ed92b897856d3f98cc5bb017631c0e293422550d5e75a67f3d30c", func := "transom/transomlaw07.PortOrder", spec := "portOrder", apart := false }
def PortOrderSaid : Prop := portOrderRow.holds Try.pinned (OpenSpec.ofChange portOrderSpec)

/-- ITS FALSE NEIGHBOUR: 'it returns false'. Refute it at one input. -/
def portOrderWrong : ChangeSpec := { name := "portOrder", fn := fun _ => fun
  | [d1, d2, d3] => { results := [.lit (.bool false)], args := [d1, d2, d3] }
  | _ => none }
def PortOrderWrongFalsely : Prop := portOrderRow.holds Try.pinned (OpenSpec.ofChange portOrderWrong)

/-- 'transomlaw07.PortLast': WHATEVER THE INPUT: true; the input reads as it did. -/
def portLastSpec : ChangeSpec := { name := "portLast", fn := fun _ => fun
  | [d1, d2] => { results := [.lit (.bool true)], args := [d1, d2] }
  | _ => none }
def portLastRow : OpenClaim := { program := "ytepnfhjfjjdpkaa", sum := "e9dba9de3d9ed92b897856d3f98cc5bb017631c0e293422550d5e75a67f3d30c", func := "transom/transomlaw07.PortLast", spec := "portLast", apart := false }
def PortLastSaid : Prop := portLastRow.holds Try.pinned (OpenSpec.ofChange portLastSpec)

/-- ITS FALSE NEIGHBOUR: 'it returns false'. Refute it at one input. -/
def portLastWrong : ChangeSpec := { name := "portLast", fn := fun _ => fun
  | [d1, d2] => { results := [.lit (.bool false)], args := [d1, d2] }
  | _ => none }
def PortLastWrongFalsely : Prop := portLastRow.holds Try.pinned (OpenSpec.ofChange portLastWrong)

/-- 'transomlaw07.PortActs': WHATEVER THE INPUT: true; the input reads as it did. -/
def portActsSpec : ChangeSpec := { name := "portActs", fn := fun _ => fun
  | [d] => { results := [.lit (.bool true)], args := [d] }
  | _ => none }
def portActsRow : OpenClaim := { program := "ytepnfhjfjjdpkaa", sum := "e9dba9de3d9ed92b897856d3f98cc5bb017631c0e293422550d5e75a67f3d30c", func := "transom/transomlaw07.PortActs", spec := "portActs", unfollowed := true, recurses := true, apart := false }
def PortActsSaid : Prop := portActsRow.holds Try.pinned (OpenSpec.ofChange portActsSpec)

/-- ITS FALSE NEIGHBOUR: 'it returns false'. Refute it at one input. -/
def portActsWrong : ChangeSpec := { name := "portActs", fn := fun _ => fun
  | [d] => { results := [.lit (.bool false)], args := [d] }
  | _ => none }
def PortActsWrongFalsely : Prop := portActsRow.holds Try.pinned (OpenSpec.ofChange portActsWrong)

/-- 'transomlaw07.PortAdds': WHATEVER THE INPUT: true; the input reads as it did. -/
def portAddsSpec : ChangeSpec := { name := "portAdds", fn := fun _ => fun
  | [d] => { results := [.lit (.bool true)], args := [d] }
  | _ => none }
def portAddsRow : OpenClaim := { program := "ytepnfhjfjjdpkaa", sum := "e9dba9de3d9ed92b897856d3f98cc5bb017631c0e293422550d5e75a67f3d30c", func := "transom/transomlaw07.PortAdds", spec := "portAdds", unfollowed := true, recurses := true, apart := false }
def PortAddsSaid : Prop := portAddsRow.holds Try.pinned (OpenSpec.ofChange portAddsSpec)

/-- ITS FALSE NEIGHBOUR: 'it returns false'. Refute it at one input. -/
def portAddsWrong : ChangeSpec := { name := "portAdds", fn := fun _ => fun
  | [d] => { results := [.lit (.bool false)], args := [d] }
  | _ => none }
def PortAddsWrongFalsely : Prop := portAddsRow.holds Try.pinned (OpenSpec.ofChange portAddsWrong)

/-- 'transomlaw07.PortTakes': WHATEVER THE INPUT: true; the input reads as it did. -/
def portTakesSpec : ChangeSpec := { name := "portTakes", fn := fun _ => fun
  | [d1, d2] => { results := [.lit (.bool true)], args := [d1, d2] }
  | _ => none }
def portTakesRow : OpenClaim := { program := "ytepnfhjfjjdpkaa", sum := "e9dba9de3d9ed92b897856d3f98cc5bb017631c0e293422550d5e75a67f3d30c", func := "transom/transomlaw07.PortTakes", spec := "portTakes", unfollowed := true, recurses := true, apart := false }
def PortTakesSaid : Prop := portTakesRow.holds Try.pinned (OpenSpec.ofChange portTakesSpec)

/-- ITS FALSE NEIGHBOUR: 'it returns false'. Refute it at one input. -/
def portTakesWrong : ChangeSpec := { name := "portTakes", fn := fun _ => fun
  | [d1, d2] => { results := [.lit (.bool false)], args := [d1, d2] }
  | _ => none }
def PortTakesWrongFalsely : Prop := portTakesRow.holds Try.pinned (OpenSpec.ofChange portTakesWrong)

/-- 'transomlaw07.PortFull': WHATEVER THE INPUT: true; the input reads as it did. -/
def portFullSpec : ChangeSpec := { name := "portFull", fn := fun _ => fun
  | [d] => { results := [.lit (.bool true)], args := [d] }
  | _ => none }
def portFullRow : OpenClaim := { program := "ytepnfhjfjjdpkaa", sum := "e9dba9de3d9ed92b897856d3f98cc5bb017631c0e293422550d5e75a67f3d30c", func := "transom/transomlaw07.PortFull", spec := "portFull", unfollowed := true, recurses := true, apart := false }
def PortFullSaid : Prop := portFullRow.holds Try.pinned (OpenSpec.ofChange portFullSpec)

/-- ITS FALSE NEIGHBOUR: 'it returns false'. Refute it at one input. -/
def portFullWrong : ChangeSpec := { name := "portFull", fn := fun _ => fun
  | [d] => { results := [.lit (.bool false)], args := [d] }
  | _ => none }
def PortFullWrongFalsely : Prop := portFullRow.holds Try.pinned (OpenSpec.ofChange portFullWrong)

/- THE SECOND FORM. 'bulk': how many values and letters a reading holds, each counted each time it is reached (what is shared counts as often as it is met; a slice's spare places count too). A statement '..UptoSaid' is the law's where the arguments, and the package variables that the reading takes, are together of bulk at most 1048576: NARROWER than '..Said'. Prove '..Said' where nothing that the law and all that it calls make is longer than what came in: it says more and counts as full. Else prove '..UptoSaid'. A law counts once. -/
mutual
def uptoBulk {H : Type} : DataW H → Nat
  | .lit (.string bytes) => bytes.length + 1
  | .lit _ => 1
  | .nil => 1
  | .ptr d => uptoBulk d + 1
  | .slice elems spare => uptoBulkAll elems + uptoBulkAll spare + 1
  | .agg parts => uptoBulkAll parts + 1
  | .iface _ d => uptoBulk d + 1
  | .map entries => uptoBulkEntries entries + 1
  | .held _ => 1
def uptoBulkAll {H : Type} : List (DataW H) → Nat
  | [] => 0
  | d :: r => uptoBulk d + uptoBulkAll r
def uptoBulkEntries {H : Type} : List (Lit × DataW H) → Nat
  | [] => 0
  | x :: r => uptoBulkEntry x + uptoBulkEntries r
def uptoBulkEntry {H : Type} : Lit × DataW H → Nat
  | (.string bytes, d) => bytes.length + uptoBulk d + 1
  | (_, d) => uptoBulk d + 1
 end
def uptoSmall : (H : Type) → List (DataW H) → Bool := fun _ ds => decide (uptoBulkAll ds ≤ 1048576)
def OpenSpec.upto (s : _root_.Go.ChangeSpec) : _root_.Go.OpenSpec := { _root_.Go.OpenSpec.ofChange s with cond := some uptoSmall }

/-- 'transomlaw07.PortBlind', WHERE WHAT IT READS IS OF BULK AT MOST 1048576: true; the input reads as it did. -/
def portBlindUptoRow : OpenClaim := { program := "ytepnfhjfjjdpkaa", sum := "e9dba9de3d9ed92b897856d3f98cc5bb017631c0e293422550d5e75a67f3d30c", func := "transom/transomlaw07.PortBlind", spec := "portBlind", apart := false, narrowed := true }
def PortBlindUptoSaid : Prop := portBlindUptoRow.holds Try.pinned (OpenSpec.upto portBlindSpec)

/-- 'transomlaw07.PortOrder', WHERE WHAT IT READS IS OF BULK AT MOST 1048576: true; the input reads as it did. -/
def portOrderUptoRow : OpenClaim := { program := "ytepnfhjfjjdpkaa", sum := "e9dba9de3d9ed92b897856d3f98cc5bb017631c0e293422550d5e75a67f3d30c", func := "transom/transomlaw07.PortOrder", spec := "portOrder", apart := false, narrowed := true }
def PortOrderUptoSaid : Prop := portOrderUptoRow.holds Try.pinned (OpenSpec.upto portOrderSpec)

/-- 'transomlaw07.PortLast', WHERE WHAT IT READS IS OF BULK AT MOST 1048576: true; the input reads as it did. -/
def portLastUptoRow : OpenClaim := { program := "ytepnfhjfjjdpkaa", sum := "e9dba9de3d9ed92b897856d3f98cc5bb017631c0e293422550d5e75a67f3d30c", func := "transom/transomlaw07.PortLast", spec := "portLast", apart := false, narrowed := true }
def PortLastUptoSaid : Prop := portLastUptoRow.holds Try.pinned (OpenSpec.upto portLastSpec)

/-- 'transomlaw07.PortActs', WHERE WHAT IT READS IS OF BULK AT MOST 1048576: true; the input reads as it did. -/
def portActsUptoRow : OpenClaim := { program := "ytepnfhjfjjdpkaa", sum := "e9dba9de3d9ed92b897856d3f98cc5bb017631c0e293422550d5e75a67f3d30c", func := "transom/transomlaw07.PortActs", spec := "portActs", unfollowed := true, recurses := true, apart := false, narrowed := true }
def PortActsUptoSaid : Prop := portActsUptoRow.holds Try.pinned (OpenSpec.upto portActsSpec)

/-- 'transomlaw07.PortAdds', WHERE WHAT IT READS IS OF BULK AT MOST 1048576: true; the input reads as it did. -/
def portAddsUptoRow : OpenClaim := { program := "ytepnfhjfjjdpkaa", sum := "e9dba9de3d9ed92b897856d3f98cc5bb017631c0e293422550d5e75a67f3d30c", func := "transom/transomlaw07.PortAdds", spec := "portAdds", unfollowed := true, recurses := true, apart := false, narrowed := true }
def PortAddsUptoSaid : Prop := portAddsUptoRow.holds Try.pinned (OpenSpec.upto portAddsSpec)

/-- 'transomlaw07.PortTakes', WHERE WHAT IT READS IS OF BULK AT MOST 1048576: true; the input reads as it did. -/
def portTakesUptoRow : OpenClaim := { program := "ytepnfhjfjjdpkaa", sum := "e9dba9de3d9ed92b897856d3f98cc5bb017631c0e293422550d5e75a67f3d30c", func := "transom/transomlaw07.PortTakes", spec := "portTakes", unfollowed := true, recurses := true, apart := false, narrowed := true }
def PortTakesUptoSaid : Prop := portTakesUptoRow.holds Try.pinned (OpenSpec.upto portTakesSpec)

/-- 'transomlaw07.PortFull', WHERE WHAT IT READS IS OF BULK AT MOST 1048576: true; the input reads as it did. -/
def portFullUptoRow : OpenClaim := { program := "ytepnfhjfjjdpkaa", sum := "e9dba9de3d9ed92b897856d3f98cc5bb017631c0e293422550d5e75a67f3d30c", func := "transom/transomlaw07.PortFull", spec := "portFull", unfollowed := true, recurses := true, apart := false, narrowed := true }
def PortFullUptoSaid : Prop := portFullUptoRow.holds Try.pinned (OpenSpec.upto portFullSpec)

end Rows
end Go.Proofs.Ytepnfhjfjjdpkaa
