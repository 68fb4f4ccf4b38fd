/-
  Small lemmas that every walk of this seat uses. Conditions: none.
-/
import Derived.Test.YtijjamiidpikdaaDoorRows
import Derived.WalkKit
import Derived.WalkSpells
import Derived.WalkLawsBesides
import Derived.Lib.Hide
namespace Go.Proofs.YtijjamiidpikdaaDoor
open Go.RowKit

theorem ret_bool {a b : Bool} (h : a = b) : Ending.returned (.bool a) = .returned (.bool b) := by rw [h]
theorem ret_int {k : IntKind} {a b : Int} (h : a = b) : Ending.returned (.int k a) = .returned (.int k b) := by rw [h]
theorem ret_pair {k l : IntKind} {a b c d : Int} (h : a = b) (g : c = d) : Ending.returned (.tuple #[.int k a, .int l c]) = .returned (.tuple #[.int k b, .int l d]) := by rw [h, g]
theorem hide {p : Prop} (h : p) : Hid p := h

/-- behind a call that leaves what was there: cells and marks read as before (rules of the walk) -/
theorem bcell {W w1 : World} (hb : Below W.heap.size W w1) : (∀ b o, b < W.heap.size → w1.cell? ⟨b, o, none⟩ = W.cell? ⟨b, o, none⟩) ∧ (∀ b o, b < W.heap.size → w1.frozen? ⟨b, o, none⟩ = W.frozen? ⟨b, o, none⟩) :=
  ⟨fun b o h => hb.cell (p := ⟨b, o, none⟩) h, fun b o h => hb.frozen (p := ⟨b, o, none⟩) h⟩
theorem below_new (w : World) (o : Obj) : Below w.heap.size w (w.alloc o) := (Below.refl _ _).alloc (Nat.le_refl _) o
/-- one new block, then a callee -/
theorem below_call {w w1 : World} {o : Obj} (hb : Below (w.alloc o).heap.size (w.alloc o) w1) : Below w.heap.size w w1 := (below_new w o).trans (hb.mono (by simp))
theorem below_call2 {w w1 : World} {o p : Obj} (hb : Below ((w.alloc o).alloc p).heap.size ((w.alloc o).alloc p) w1) : Below w.heap.size w w1 := ((below_new w o).alloc (by simp) p).trans (hb.mono (by simp; omega))

end Go.Proofs.YtijjamiidpikdaaDoor
