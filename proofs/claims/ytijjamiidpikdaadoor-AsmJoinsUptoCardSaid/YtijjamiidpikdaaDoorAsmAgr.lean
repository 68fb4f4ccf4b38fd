/-
  A world whose first blocks are known each by itself: kept over new blocks, over a row beyond them, over a block put anew. Conditions: none.
-/
import Derived.Test.YtijjamiidpikdaaDoorAsmSeq
import Derived.Test.YtijjamiidpikdaaDoorAsmRSplit
import Derived.Maps.AppendAt
namespace Go.Proofs.YtijjamiidpikdaaDoor.Asm
open Go.RowKit

/-- below B the blocks of W are as E says; the streams are as in A; no block has gone, and B of them are there -/
structure Agr (B : Nat) (A : World) (E : Nat → Option Obj) (W : World) : Prop where
  os : W.os = A.os
  tape : W.tape = A.tape
  output : W.output = A.output
  size : A.heap.size ≤ W.heap.size
  room : B ≤ W.heap.size
  block : ∀ k, k < B → W.heap[k]? = E k

section
variable {B : Nat} {A W W' : World} {E : Nat → Option Obj}
theorem Agr.self (h : B ≤ W.heap.size) : Agr B W (fun k => W.heap[k]?) W := ⟨rfl, rfl, rfl, Nat.le_refl _, h, fun _ _ => rfl⟩
theorem Agr.grown (h : Agr B A E W) {row : Option Nat} (hg : W.grownBy W' row) (hr : ∀ k, row = some k → B ≤ k) : Agr B A E W' :=
  ⟨hg.os.trans h.os, hg.tape.trans h.tape, hg.output.trans h.output, Nat.le_trans h.size hg.size, Nat.le_trans h.room hg.size, fun k hk =>
    (hg.block k (Nat.lt_of_lt_of_le hk h.room) (fun e => by have := hr k e.symm; omega)).trans (h.block k hk)⟩
theorem Agr.alloc (h : Agr B A E W) (o : Obj) : Agr B A E (W.alloc o) := h.grown (World.grownBy_alloc W o none) (fun _ e => by cases e)
theorem Agr.put (h : Agr B A E W) (k0 : Nat) (hk0 : k0 < B) (o : Obj) : Agr B A (fun k => if k = k0 then some o else E k) (W.putObj k0 o) :=
  ⟨h.os, h.tape, h.output, by simpa using h.size, by simpa using h.room, fun k hk => by
    by_cases e : k = k0
    · subst e
      rw [if_pos rfl]
      exact World.putObj_heap_same (Nat.lt_of_lt_of_le hk0 h.room)
    · rw [if_neg e]
      exact (World.putObj_heap_other e).trans (h.block k hk)⟩
theorem Agr.congr (h : Agr B A E W) {E' : Nat → Option Obj} (he : ∀ k, k < B → E k = E' k) : Agr B A E' W := ⟨h.os, h.tape, h.output, h.size, h.room, fun k hk => (h.block k hk).trans (he k hk)⟩
/-- a store into a box is the box put anew -/
theorem setCell_box {W : World} {b : Nat} {v v' : Value} {t : TypeId} (h : W.heap[b]? = some (.cells #[v] t (0, 0))) : W.setCell ⟨b, 0, none⟩ v' = W.putObj b (.cells #[v'] t (0, 0)) := by
  obtain ⟨hlt, hk⟩ := Array.getElem?_eq_some_iff.1 h
  have : (W.setCell ⟨b, 0, none⟩ v').heap = (W.putObj b (.cells #[v'] t (0, 0))).heap := by
    apply Array.ext_getElem?
    intro k
    by_cases e : k = b
    · subst e
      have := (Boxed.set (B := k) (t := t) (v := v) v' h)
      rw [World.putObj_heap_same hlt]
      exact this
    · rw [World.putObj_heap_other e]
      exact Below.heap_setCell _ _ _ k e
  exact congrArg (fun hp => ({ W with heap := hp } : World)) this
theorem Agr.below {n : Nat} (h : Agr B A E W) (hn : n ≤ B) (he : ∀ k, k < n → E k = A.heap[k]?) : Below n A W :=
  ⟨h.os, h.tape, h.output, h.size, fun k hk => (h.block k (by omega)).trans (he k hk)⟩
theorem Agr.box (h : Agr B A E W) {b : Nat} {v : Value} {t : TypeId} (hb : b < B) (he : E b = some (.cells #[v] t (0, 0))) : Boxed W b t v := (h.block b hb).trans he
end

end Go.Proofs.YtijjamiidpikdaaDoor.Asm
