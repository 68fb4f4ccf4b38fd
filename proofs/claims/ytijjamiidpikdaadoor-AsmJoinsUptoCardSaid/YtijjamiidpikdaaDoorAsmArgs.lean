/-
  The tables of strings out of the row's list; a world for the witnesses of the assembler's laws. Conditions: none.
-/
import Derived.Test.YtijjamiidpikdaaDoorLaw
import Derived.Test.YtijjamiidpikdaaDoorAsmLine
import Derived.Test.YtijjamiidpikdaaDoorCards
import Derived.Test.YtijjamiidpikdaaDoorTie
namespace Go.Proofs.YtijjamiidpikdaaDoor.Asm
open Go.ChangeShapes Go.WideShapes Go.ChangeAt Go.RowKit Go.Joins Go.Proofs.YtijjamiidpikdaaDoor.Isa

theorem cellsIns : Tryd.prog.cellsOf 27 = 4 := by kernel_rfl
theorem cellsInt : Tryd.prog.cellsOf 3 = 1 := by kernel_rfl
theorem cellsUses : Tryd.prog.cellsOf 72 = 25 := by kernel_rfl
theorem cellsStr : Tryd.prog.cellsOf 9 = 1 := by kernel_rfl
theorem cellsNames : Tryd.prog.cellsOf 51 = 25 := by kernel_rfl
theorem gUses : Tryd.prog.globalNamed "transom/isa.uses" = some 2 := by kernel_rfl
theorem gUsesType : (Tryd.prog.globals[2]?).map (·.type) = some 72 := by kernel_rfl
theorem gNames : Tryd.prog.globalNamed "transom/asm.names" = some 0 := by kernel_rfl
theorem gNamesType : (Tryd.prog.globals[0]?).map (·.type) = some 51 := by kernel_rfl
theorem gAUses : Tryd.prog.globalNamed "transom/asm.uses" = some 1 := by kernel_rfl
theorem gAUsesType : (Tryd.prog.globals[1]?).map (·.type) = some 51 := by kernel_rfl

def strData {H : Type} (ls : List (List UInt8)) : DataW H := .agg (ls.map fun s => .lit (.string s))
theorem cells_of_strs {H : Type} {enc : TypeId × Value → H} {P : Program} {w : World} {base : Nat} {sp : Nat → Bool} {held : Bool} {fuel : Nat} {t e : TypeId} {n : Nat} {cs : List Value} {ls : List (List UInt8)} {p : List MemPlace}
    (ht : P.underlying t = some (.array n e)) (he : P.underlying e = some .string) (hce : P.cellsOf e = 1) (hct : P.cellsOf t = n)
    (h : DataW.trod enc P w base sp held fuel t cs = some (strData ls, p)) : cs = ls.map fun s => Value.string ⟨s.toArray⟩ := by
  cases fuel with
  | zero => simp [DataW.trod] at h
  | succ fuel =>
    simp only [DataW.trod, ht, hce, hct, Nat.mul_one] at h
    split at h
    · rename_i hl
      obtain ⟨xs, hm, hx⟩ := Option.map_eq_some_iff.1 h
      have hxs : xs.map (·.1) = ls.map fun s => (DataW.lit (.string s) : DataW H) := by
        have := congrArg Prod.fst hx
        simpa [strData] using this
      have hxl : xs.length = n := by simpa using Lib.mapM_length hm
      have hzl : ls.length = n := by
        have := congrArg List.length hxs
        simp at this
        omega
      apply List.ext_getElem?
      intro i
      by_cases hi : i < n
      · obtain ⟨b, hb, hf⟩ := Lib.mapM_at hm i i (by simp [hi])
        obtain ⟨s, hc, rfl, _⟩ := DataW.trod_string he hf
        have h1 : cs[i]? = some (.string s) := by
          have := congrArg (·[0]?) hc
          simpa [List.getElem?_take, List.getElem?_drop] using this
        have h2 : (xs.map (·.1))[i]? = some (DataW.lit (.string s.data.toList) : DataW H) := by simp [hb]
        rw [hxs] at h2
        simp only [List.getElem?_map, Option.map_eq_some_iff, DataW.lit.injEq, Lit.string.injEq] at h2
        obtain ⟨s', hs', e⟩ := h2
        rw [h1, List.getElem?_map, hs']
        subst e
        simp
      · rw [List.getElem?_eq_none (by omega), List.getElem?_eq_none (by simp; omega)]
    · cases h

theorem tabS_of {W : World} {name : String} {g : Nat} {ls : List (List UInt8)} (hg : Tryd.prog.globalNamed name = some g) (hl : ls.length = 25) (h : W.var? Tryd.prog name = some (ls.map fun s => Value.string ⟨s.toArray⟩).toArray) : TabS g ls W := by
  have hc : ∀ n : Nat, n < 25 → W.cell? ⟨g, n, none⟩ = some (.string ⟨(ls.getD n []).toArray⟩) := fun n hn => by
    have := World.var?_cell hg h n
    rw [this]
    simp [List.getD_eq_getElem?_getD, List.getElem?_eq_getElem (show n < ls.length by omega)]
  exact ⟨World.block_lt_of_cell? W ⟨g, 0, none⟩ (hc 0 (by omega)), hc⟩
theorem tab_of {W : World} (h : Lib.TabIs Tryd.prog W "transom/isa.uses" .i64 usesL) : Tab W :=
  ⟨World.block_lt_of_cell? W ⟨2, 0, none⟩ (h.cell gUses 0 (by decide)), fun n hn => h.cell gUses n (by simpa [usesL] using hn)⟩

theorem tabs_of {W : World} {rest : List (String × DataW Unit)} {ps : List MemPlace}
    (h : DataW.LaidVars Tryd.prog W (("transom/isa.uses", Lib.tabData .i64 usesL) :: ("transom/asm.names", strData namesL) :: ("transom/asm.uses", strData usesS) :: rest) ps) : Tabs W := by
  obtain ⟨g1, t1, cs1, f1, p1, q1, hg1, ht1, hv1, hd1, ⟨g2, t2, cs2, f2, p2, q2, hg2, ht2, hv2, hd2, ⟨g3, t3, cs3, f3, p3, q3, hg3, ht3, hv3, hd3, _⟩, _⟩, _⟩ := h
  obtain rfl := Option.some.inj (gUses.symm.trans hg1)
  obtain rfl := Option.some.inj (gUsesType.symm.trans ht1)
  obtain rfl := Option.some.inj (gNames.symm.trans hg2)
  obtain rfl := Option.some.inj (gNamesType.symm.trans ht2)
  obtain rfl := Option.some.inj (gAUses.symm.trans hg3)
  obtain rfl := Option.some.inj (gAUsesType.symm.trans ht3)
  refine ⟨tab_of ?_, tabS_of gNames (by decide) ?_, tabS_of gAUses (by decide) ?_⟩
  · unfold Lib.TabIs
    rw [hv1, ← Lib.cells_of_tab Tryd.underlying72 Tryd.underlying3 cellsInt cellsUses hd1]
  · rw [hv2, ← cells_of_strs Tryd.underlying51 Tryd.underlying9 cellsStr cellsNames hd2]
  · rw [hv3, ← cells_of_strs Tryd.underlying51 Tryd.underlying9 cellsStr cellsNames hd3]

/-- a world whose variable g holds these cells -/
noncomputable def withVar (w : World) (g : Nat) (cs : Array Value) : World :=
  { w with heap := w.heap.modify g fun
      | .cells _ t frozen => .cells cs t frozen
      | o => o }
noncomputable def laidWorld (os : Os) : World :=
  withVar (withVar (withVar (World.holding Tryd.prog os ⟨#[], #[], []⟩) 2 (usesL.map fun z => Value.int .i64 z).toArray) 0 (namesL.map fun s => Value.string ⟨s.toArray⟩).toArray) 1 (usesS.map fun s => Value.string ⟨s.toArray⟩).toArray

end Go.Proofs.YtijjamiidpikdaaDoor.Asm
