/-
  One instruction's cells in a block of its own; an own row, kept. Conditions: none.
-/
import Derived.Test.YtijjamiidpikdaaDoorRowAppend
import Derived.Test.YtijjamiidpikdaaDoorIsaList
namespace Go.Proofs.YtijjamiidpikdaaDoor.Asm
open Go.RowKit Go.Proofs.YtijjamiidpikdaaDoor.Isa

theorem infoIns : (Tryd.prog.info? 27).map (fun i => (i.zero, i.size, i.bytes)) = some (some (.agg #[.int .i64 0, .int .i64 0, .int .i64 0, .int .i64 0]), 4, 32) := by kernel_rfl

/-- one instruction's cells in a block of its own -/
theorem rdC_ins {w : World} {b : Nat} {o x y z : Int} (h0 : w.cell? ⟨b, 0, none⟩ = some (.int .i64 o)) (h1 : w.cell? ⟨b, 1, none⟩ = some (.int .i64 x)) (h2 : w.cell? ⟨b, 2, none⟩ = some (.int .i64 y)) (h3 : w.cell? ⟨b, 3, none⟩ = some (.int .i64 z)) :
    RdC w 4 (some ⟨b, 0, none⟩) 1 1 [.int .i64 o, .int .i64 x, .int .i64 y, .int .i64 z] := by
  refine ⟨rfl, Nat.le_refl _, by simp [maxLen], (fun h => by cases h), fun q hq => ?_⟩
  injection hq with hq
  subst hq
  refine ⟨fun _ => World.block_lt_of_cell? _ _ h0, fun j u hu => ?_⟩
  have e : (⟨b, 0, none⟩ : Addr).add j = ⟨b, j, none⟩ := by unfold Addr.add; split <;> simp_all
  rw [e]
  match j, hu with
  | 0, hu => simp at hu; subst hu; exact h0
  | 1, hu => simp at hu; subst hu; exact h1
  | 2, hu => simp at hu; subst hu; exact h2
  | 3, hu => simp at hu; subst hu; exact h3
theorem one_ins (o x y z : Int) : ∀ u ∈ [Value.int .i64 o, Value.int .i64 x, Value.int .i64 y, Value.int .i64 z], u.oneCell' = true := by simp [Value.oneCell']
theorem own_keep {w w' : World} {base size n : Nat} {e : TypeId} {v : Value} {xs : List Value} (h : w.ownsRow base e size v n xs) (hb : Below w.heap.size w w') : w'.ownsRow base e size v n xs := by
  obtain ⟨h1, h2⟩ := h
  refine ⟨h1, ?_⟩
  rcases h2 with ⟨hv, rfl⟩ | ⟨g, cap, cur, hv, hg, hh, rest⟩
  · exact .inl ⟨hv, rfl⟩
  · have hlt : g < w.heap.size := by
      rcases Nat.lt_or_ge g w.heap.size with h | h
      · exact h
      · rw [Array.getElem?_eq_none h] at hh; cases hh
    exact .inr ⟨g, cap, cur, hv, hg, by rw [hb.block g hlt]; exact hh, rest⟩

end Go.Proofs.YtijjamiidpikdaaDoor.Asm
