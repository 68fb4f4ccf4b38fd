/-
  The walk of asm.Print: a program's text. Conditions: the tables as laid; at most 2097152 instructions.
-/
import Derived.Test.YtijjamiidpikdaaDoorBuilderS
import Derived.Test.YtijjamiidpikdaaDoorAsmReadPlain
import Derived.Test.YtijjamiidpikdaaDoorAsmAny
namespace Go.Proofs.YtijjamiidpikdaaDoor.Asm
open Go.RowKit Go.Proofs.YtijjamiidpikdaaDoor.Isa

theorem heap_alloc_new (w : World) (o : Obj) : (w.alloc o).heap[w.heap.size]? = some o := World.alloc_heap_new w o
theorem isB_below {B b : Nat} {bs : List Value} {w w' : World} (h : IsB B b bs w) (hb : Below w.heap.size w w') : IsB B b bs w' := by
  have key : ∀ p, Lib.BuilderAtF 65 5 B b p bs w → Lib.BuilderAtF 65 5 B b p bs w' := by
    rintro p ⟨hB, v, hh, hown, hne⟩
    have lt : ∀ {k : Nat} {o : Obj}, w.heap[k]? = some o → k < w.heap.size := fun {k} {o} h => by
      rcases Nat.lt_or_ge k w.heap.size with h' | h'
      · exact h'
      · rw [Array.getElem?_eq_none h'] at h; cases h
    refine ⟨hB, v, by rw [hb.block b (lt hh)]; exact hh, ?_, hne⟩
    obtain ⟨h1, h2⟩ := hown
    refine ⟨h1, ?_⟩
    rcases h2 with ⟨hv, h0⟩ | ⟨g, cap, cur, fz, hv, hg, hgh, rest⟩
    · exact .inl ⟨hv, h0⟩
    · exact .inr ⟨g, cap, cur, fz, hv, hg, by rw [hb.block g (lt hgh)]; exact hgh, rest⟩
  exact h.elim (fun h => .inl (key _ h)) (fun h => .inr (key _ h))
def allM (l : List Ins) (k : Nat) : Prop := ∀ j i, j < k → l[j]? = some i → mayI i = true
theorem textI_take (l : List Ins) {k : Nat} {i : Ins} (hk : l[k]? = some i) : textI (l.take (k + 1)) = textI (l.take k) ++ (lineI i ++ [10]) := by
  unfold textI
  rw [List.take_add_one, hk]
  simp
theorem lineI_len {i : Ins} (h : mayI i = true) : (lineI i).length ≤ 40 := by
  obtain ⟨op, a, b, im⟩ := i
  have h : mayB op a b im = true := h
  obtain ⟨n, rfl⟩ := Int.eq_ofNat_of_zero_le (show 0 ≤ op by have := (mayB_in h).1; omega)
  exact lineL_len h
theorem textI_len (l : List Ins) (k : Nat) (h : allM l k) : (textI (l.take k)).length ≤ 41 * k := by
  induction k with
  | zero => simp [textI]
  | succ k ih =>
    have ih := ih (fun j i hj hi => h j i (by omega) hi)
    cases hg : l[k]? with
    | none =>
      rw [List.take_of_length_le (by have := List.getElem?_eq_none_iff.1 hg; omega)]
      rw [List.take_of_length_le (by have := List.getElem?_eq_none_iff.1 hg; omega)] at ih
      omega
    | some i =>
      rw [textI_take l hg]
      have := lineI_len (h k i (by omega) hg)
      simp only [List.length_append, List.length_cons, List.length_nil]
      omega
theorem print_no {l : List Ins} {k : Nat} {i : Ins} (hg : l[k]? = some i) (h : mayI i = false) : printT l = [] ∧ printE l = 1 := by
  have hn : ¬ l.all mayI = true := fun ha => by
    have := List.all_eq_true.1 ha i (List.mem_of_getElem? hg)
    rw [h] at this
    cases this
  exact ⟨if_neg hn, if_neg hn⟩
theorem print_yes {l : List Ins} (h : allM l l.length) : printT l = textI l ∧ printE l = 0 := by
  have hy : l.all mayI = true := List.all_eq_true.2 (fun i hi => by
    obtain ⟨j, hj⟩ := List.getElem?_of_mem hi
    exact h j i (List.getElem?_eq_some_iff.1 hj).1 hj)
  exact ⟨if_pos hy, if_pos hy⟩
theorem allM_succ {l : List Ins} {k : Nat} {i : Ins} (h : allM l k) (hg : l[k]? = some i) (hi : mayI i = true) : allM l (k + 1) := fun j x hj hx => by
  rcases Nat.lt_or_ge j k with h' | h'
  · exact h j x h' hx
  · have e : j = k := by omega
    subst e
    rw [hg] at hx
    injection hx with hx
    subst hx
    exact hi

set_option maxRecDepth 100000 in
set_option maxHeartbeats 3200000 in
theorem print_any (A : Option Addr) (n c : Nat) (l : List Ins) (w : World) (hT : Tabs w) (hR : RdC w 4 A n c (cellsI l)) (hl : l.length = n) (hn : n ≤ 2097152) :
    Calls Tryd.prog 18 #[.slice A n c] w fun e w' => e = .returned (.tuple #[.string ⟨(printT l).toArray⟩, .int .i64 (printE l)]) ∧ Below w.heap.size w w' := by
  have hT' := hide hT
  have hR' := hide hR
  have hnc := hR.2.1
  have hcm : c ≤ 9223372036854775807 := hR.2.2.1
  have HL := hide hl
  clear hT hR hl
  go_enter Tryd.func18, Tryd.ntmps18
  go_wp2
  have hI0 : IsB w.heap.size w.heap.size [] (w.alloc (.cells #[.pointer none, .slice none 0 0] 65)) := isB_new (Nat.le_refl _) (heap_alloc_new _ _)
  go_loopw [11] (fun i wr => ∃ k : Nat, k ≤ n ∧ i = .int .i64 k ∧ Hid (allM l k) ∧ Hid (IsB w.heap.size w.heap.size (Lib.byteCells (textI (l.take k))) wr) ∧ Hid (Below w.heap.size w wr)) (fun i _ => n - (intOf i).toNat)
  case atStart => exact ⟨0, Nat.zero_le _, rfl, (fun j i hj => by omega), hI0, below_new _ _⟩
  case round =>
    obtain ⟨k, hk, rfl, hM, hI, hB⟩ := hrel
    clear hI0
    obtain ⟨wo, rfl⟩ : ∃ wo : World, wo = wr := ⟨_, rfl⟩
    by_cases hlt : k < n
    · have hk0 : (0 : Int) ≤ (k : Int) := Int.natCast_nonneg _
      have hk1 : (k : Int) < (n : Int) := by omega
      obtain ⟨b, o, rfl, hbl, hc⟩ := hR'.out.lit (by omega) (by omega)
      have hg : l[k]? = some (l[k]'(by rw [HL.out]; exact hlt)) := List.getElem?_eq_getElem _
      generalize l[k]'(by rw [HL.out]; exact hlt) = ins at hg
      obtain ⟨op, a, b', imm⟩ := ins
      obtain ⟨c0, c1, c2, c3⟩ := cellsI_get _ _ _ hg
      have c0 := (hB.out.cell (p := ⟨b, o + k * 4, none⟩) hbl).trans (hc _ _ c0)
      have c1 := (hB.out.cell (p := ⟨b, o + (k * 4 + 1), none⟩) hbl).trans (hc _ _ c1)
      have c2 := (hB.out.cell (p := ⟨b, o + (k * 4 + 2), none⟩) hbl).trans (hc _ _ c2)
      have c3 := (hB.out.cell (p := ⟨b, o + (k * 4 + 3), none⟩) hbl).trans (hc _ _ c3)
      simp only [← Nat.add_assoc] at c0 c1 c2 c3
      have HG := hide hg
      clear hg hc
      have hsw := hB.out.size
      have hpl := textI_len l k hM.out
      cases hm : mayB op a b' imm with
      | true =>
        obtain ⟨m, rfl⟩ := Int.eq_ofNat_of_zero_le (show 0 ≤ op by have := (mayB_in hm).1; omega)
        have HM := hide hm
        have hM2 := hide (allM_succ hM.out HG.out hm)
        clear hm
        go_wp2_with fail
        refine (line_ok m a b' imm _ (hT'.out.below (hB.out.alloc hB.out.size _)) HM.out).mono ?_
        rintro e x1 ⟨rfl, hb⟩
        have hI1 := hide (isB_below (isB_below hI.out (below_new _ _)) hb)
        have hB1 := hide ((hB.out.alloc hB.out.size (.cells #[.int .i64 (m : Int), .int .i64 a, .int .i64 b', .int .i64 imm] 27)).trans (hb.mono (by simp; omega)))
        have hll := lineL_len HM.out
        have hTX := hide (textI_take l HG.out)
        have hTX := hide (show textI (l.take (k + 1)) = textI (l.take k) ++ (lineL m a b' imm ++ [10]) from hTX.out)
        clear hb hI hB c0 c1 c2 c3
        generalize lineL m a b' imm = LL at hll hTX ⊢
        go_wp2_with fail
        refine (b_write w.heap.size w.heap.size (Lib.byteCells (textI (l.take k))) ⟨LL.toArray⟩ _ hI1.out (by
          rw [Lib.byteCells_length]
          show _ + LL.length ≤ _
          omega) hB1.out.size).mono ?_
        rintro e x2 ⟨rfl, hI2, hb2⟩
        have hB2 := hide (hB1.out.trans hb2)
        have hI2 := hide (show IsB w.heap.size w.heap.size (Lib.byteCells (textI (l.take k) ++ LL)) x2 from by rw [Lib.byteCells_append]; exact hI2)
        clear hb2 hI1 hB1
        go_wp2_with fail
        refine (b_byte w.heap.size w.heap.size (Lib.byteCells (textI (l.take k) ++ LL)) 10 _ hI2.out (by
          rw [Lib.byteCells_length, List.length_append]
          omega) hB2.out.size).mono ?_
        rintro e x3 ⟨rfl, hI3, hb3, -⟩
        have hB3 := hide (hB2.out.trans hb3)
        have hI3 := hide (show IsB w.heap.size w.heap.size (Lib.byteCells (textI (l.take (k + 1)))) x3 from by
          rw [hTX.out, ← List.append_assoc, Lib.byteCells_append]
          exact hI3)
        clear hb3 hI2 hB2
        go_wp2
        go_roundw
        case rel => exact ⟨k + 1, by omega, by go_num, hM2, hI3, hB3⟩
        case measure => simp [intOf]; omega
      | false =>
        have HM := hide hm
        have hE := hide (print_no HG.out (show mayI (op, a, b', imm) = false from hm))
        clear hm
        go_wp2_with fail
        refine (line_no op a b' imm _ (hT'.out.below (hB.out.alloc hB.out.size _)) HM.out).mono ?_
        rintro e x1 ⟨rfl, hb⟩
        have hB1 := hide ((hB.out.alloc hB.out.size (.cells #[.int .i64 op, .int .i64 a, .int .i64 b', .int .i64 imm] 27)).trans (hb.mono (by simp; omega)))
        clear hb hI hB c0 c1 c2 c3
        go_wp2_with fail
        go_ret2
        rw [hE.out.1, hE.out.2]
        exact ⟨rfl, hB1.out⟩
    · have hkn : k = n := by omega
      subst hkn
      have hk1 : ¬ (k : Int) < (k : Int) := by omega
      have hE := hide (print_yes (l := l) (by rw [HL.out]; exact hM.out))
      go_wp2_with fail
      refine (b_string w.heap.size w.heap.size (textI (l.take k)) _ hI.out hB.out.size).mono ?_
      rintro e x1 ⟨rfl, hb⟩
      have hB1 := hide (hB.out.trans hb)
      clear hb hI hB
      rw [List.take_of_length_le (by rw [HL.out]; exact Nat.le_refl _)]
      go_wp2_with fail
      go_ret2
      rw [hE.out.1, hE.out.2]
      exact ⟨rfl, hB1.out⟩

end Go.Proofs.YtijjamiidpikdaaDoor.Asm
