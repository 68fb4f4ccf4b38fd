/-
  The arguments of the assembler's laws, opened: an instruction by value, a list of instructions; the bulk of a text; the row's list of five variables and a world that meets it. Conditions: none.
-/
import Derived.Test.YtijjamiidpikdaaDoorAsmArgs
import Derived.Test.YtijjamiidpikdaaDoorIsaList
import Derived.Test.YtijjamiidpikdaaDoorRow
import Derived.Test.YtijjamiidpikdaaDoorBulk
namespace Go.Proofs.YtijjamiidpikdaaDoor.Asm
open Go.ChangeShapes Go.WideShapes Go.ChangeAt Go.RowKit Go.Joins Go.Deep Go.Proofs.YtijjamiidpikdaaDoor.Isa

section
variable {H : Type} {enc : TypeId × Value → H} {w : World} {base : Nat} {spare : Nat → Bool} {held : Bool}
theorem open_ins {r : Reach} {b0 : Nat} {v : Value} {d : DataW H} {p : List MemPlace} (hv : Value.okWide Tryd.prog w r b0 27 v) (h : DataW.Trod enc Tryd.prog w base spare held 27 v d p) :
    ∃ op a b imm : Int, v = .agg #[.int .i64 op, .int .i64 a, .int .i64 b, .int .i64 imm] ∧ d = .agg [.lit (.int .i64 op), .lit (.int .i64 a), .lit (.int .i64 b), .lit (.int .i64 imm)] ∧ p = [] := by
  obtain ⟨c0, c1, c2, c3, y0, y1, y2, y3, m, rfl, rfl, rfl, hy0, hy1, hy2, hy3⟩ := open_agg4 Tryd.underlying27 (by kernel_rfl) cellsIns hv h
  obtain ⟨a, e0, rfl, wa⟩ := DataW.trod_int Tryd.underlying3 hy0
  obtain ⟨b, e1, rfl, wb⟩ := DataW.trod_int Tryd.underlying3 hy1
  obtain ⟨c, e2, rfl, wc⟩ := DataW.trod_int Tryd.underlying3 hy2
  obtain ⟨d, e3, rfl, wd⟩ := DataW.trod_int Tryd.underlying3 hy3
  simp at e0 e1 e2 e3
  subst e0 e1 e2 e3
  exact ⟨a, b, c, d, rfl, rfl, rfl⟩
end

theorem choose_lt' {α : Type} {p : Nat → α → Prop} [Nonempty α] {m : Nat} (h : ∀ i, i < m → ∃ g, p i g) : ∃ g : Nat → α, ∀ i, i < m → p i (g i) := by
  refine ⟨fun i => if hi : i < m then Classical.choose (h i hi) else Classical.choice inferInstance, fun i hi => ?_⟩
  simp only [dif_pos hi]
  exact Classical.choose_spec (h i hi)

theorem open_insl {H : Type} {enc : TypeId × Value → H} {w : World} {held : Bool} {fuel : Nat} {cs : List Value} {x : DataW H × List MemPlace}
    (h : DataW.trod enc Tryd.prog w 0 (fun _ => true) held fuel 39 cs = some x) :
    ∃ (A : Option Addr) (n c : Nat) (l : List Ins), cs = [.slice A n c] ∧ RdC w 4 A n c (cellsI l) ∧ l.length = n ∧ n ≤ Rows.uptoBulk x.1 := by
  rcases open_slice Tryd.underlying39 h with ⟨rfl, rfl⟩ | ⟨a, len, cap, m, n, D, Pl, rfl, _, hl, hm, hmm, rfl, hi⟩
  · exact ⟨none, 0, 0, [], rfl, RdC.nil _ _, rfl, by simp⟩
  · simp at hmm
    rw [cellsIns] at hi
    have each : ∀ i, i < m → ∃ g : Ins, w.cell? (a.add (i * 4)) = some (.int .i64 g.1) ∧ w.cell? (a.add (i * 4 + 1)) = some (.int .i64 g.2.1) ∧ w.cell? (a.add (i * 4 + 2)) = some (.int .i64 g.2.2.1) ∧ w.cell? (a.add (i * 4 + 3)) = some (.int .i64 g.2.2.2) := by
      intro i hic
      obtain ⟨cs', hc, ht⟩ := hi i hic
      obtain ⟨xs, n', rfl, hx, hlen, hxl, hf⟩ := DataW.trod_struct Tryd.underlying27 ht
      rw [cellsIns] at hlen
      match cs', hlen with
      | [c0, c1, c2, c3], _ =>
        match xs, hxl with
        | [x0, x1, x2, x3], _ =>
          obtain ⟨a0, e0, _, _⟩ := DataW.trod_int Tryd.underlying3 (x := x0) (by simpa [cellsInt] using hf 0 _ rfl)
          obtain ⟨a1, e1, _, _⟩ := DataW.trod_int Tryd.underlying3 (x := x1) (by simpa [cellsInt] using hf 1 _ rfl)
          obtain ⟨a2, e2, _, _⟩ := DataW.trod_int Tryd.underlying3 (x := x2) (by simpa [cellsInt] using hf 2 _ rfl)
          obtain ⟨a3, e3, _, _⟩ := DataW.trod_int Tryd.underlying3 (x := x3) (by simpa [cellsInt] using hf 3 _ rfl)
          simp at e0 e1 e2 e3
          subst e0 e1 e2 e3
          obtain ⟨_, hcl, hat⟩ := World.cells?_some hc
          have h0 := hat 0 (by simp)
          have h1 := hat 1 (by simp)
          have h2 := hat 2 (by simp)
          have h3 := hat 3 (by simp)
          rw [Go.Deep.add_add] at h0 h1 h2 h3
          exact ⟨(a0, a1, a2, a3), by simpa using h0, by simpa using h1, by simpa using h2, by simpa using h3⟩
    obtain ⟨g, hg⟩ := choose_lt' (α := Ins) each
    refine ⟨some a, len, _, (List.range len).map g, rfl, ⟨by rw [cellsI_length]; simp, hl, hm, (fun e => by cases e), fun b hb => ?_⟩, by simp, ?_⟩
    · injection hb with hb
      subst hb
      refine ⟨fun h0 => ?_, fun j u hu => ?_⟩
      · have := World.block_lt_of_cell? _ _ (hg 0 (by omega)).1
        rwa [add_block] at this
      · have hj : j < (cellsI ((List.range len).map g)).length := (List.getElem?_eq_some_iff.1 hu).1
        rw [cellsI_length] at hj
        simp only [List.length_map, List.length_range] at hj
        have hk : ((List.range len).map g)[j / 4]? = some (g (j / 4)) := by
          rw [List.getElem?_map, List.getElem?_range (by omega)]
          rfl
        obtain ⟨q0, q1, q2, q3⟩ := cellsI_get _ _ _ hk
        obtain ⟨r0, r1, r2, r3⟩ := hg (j / 4) (by omega)
        have hm4 : j % 4 = 0 ∨ j % 4 = 1 ∨ j % 4 = 2 ∨ j % 4 = 3 := by omega
        rcases hm4 with h4 | h4 | h4 | h4
        · have e : j / 4 * 4 = j := by omega
          rw [e] at q0 r0
          rw [r0, ← q0, hu]
        · have e : j / 4 * 4 + 1 = j := by omega
          rw [e] at q1 r1
          rw [r1, ← q1, hu]
        · have e : j / 4 * 4 + 2 = j := by omega
          rw [e] at q2 r2
          rw [r2, ← q2, hu]
        · have e : j / 4 * 4 + 3 = j := by omega
          rw [e] at q3 r3
          rw [r3, ← q3, hu]
    · have := bulk_slice ((List.range len).map D) ((List.range (m - len)).map fun j => D (len + j))
      simp only [List.length_map, List.length_range] at this
      simp only
      omega


theorem bulk_bytes {H : Type} (l : List UInt8) : Rows.uptoBulk (DataW.lit (H := H) (.string (⟨l.toArray⟩ : ByteArray).data.toList)) = l.length + 1 := bulk_string _

theorem tabs_of5 {W : World} {d : DataW Unit} {name : String} {rest : List (String × DataW Unit)} {ps : List MemPlace}
    (h : DataW.LaidVars Tryd.prog W ((name, d) :: ("transom/isa.uses", Lib.tabData .i64 usesL) :: ("transom/asm.names", strData namesL) :: ("transom/asm.uses", strData usesS) :: rest) ps) : Tabs W := by
  obtain ⟨_, _, _, _, _, _, _, _, _, _, h', _⟩ := h
  exact tabs_of h'
noncomputable def laidWorld5 (os : Os) : World :=
  withVar (withVar (laidWorld os) 5 (([128, 191, 160, 191, 128, 159, 144, 191, 128, 143, 0, 0, 0, 0, 0, 0, 0, 0, 0, 0, 0, 0, 0, 0, 0, 0, 0, 0, 0, 0, 0, 0] : List Int).map fun z => Value.int .u8 z).toArray) 4 (Pinned.utf8FirstZ.map fun (z : Nat) => Value.int .u8 (z : Int)).toArray

end Go.Proofs.YtijjamiidpikdaaDoor.Asm
