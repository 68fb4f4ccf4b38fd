/-
  The walk of the reference's Print: a program's text. Conditions: at most 2097152 instructions.
-/
import Derived.Test.YtijjamiidpikdaaDoorAsmPrint
namespace Go.Proofs.YtijjamiidpikdaaDoor.Asm
open Go.RowKit Go.Proofs.YtijjamiidpikdaaDoor.Isa

set_option maxRecDepth 100000 in
set_option maxHeartbeats 3200000 in
theorem rprint_any (A : Option Addr) (n c : Nat) (l : List Ins) (w : World) (hR : RdC w 4 A n c (cellsI l)) (hl : l.length = n) (hn : n ≤ 2097152) :
    Calls Tryd.prog 19 #[.slice A n c] w fun e w' => e = .returned (.tuple #[.string ⟨(printT l).toArray⟩, .int .i64 (printE l)]) ∧ Below w.heap.size w w' := by
  have hR' := hide hR
  have hnc := hR.2.1
  have hcm : c ≤ 9223372036854775807 := hR.2.2.1
  have HL := hide hl
  clear hR hl
  go_enter Tryd.func19, Tryd.ntmps19
  go_wp2
  go_loopw [4, 5] (fun v i wr => ∃ k : Nat, k ≤ n ∧ i = .int .i64 k ∧ v = .string ⟨(textI (l.take k)).toArray⟩ ∧ Hid (allM l k) ∧ Hid (Below w.heap.size w wr)) (fun _ i _ => n - (intOf i).toNat)
  case atStart => exact ⟨0, Nat.zero_le _, rfl, by simp [textI], (fun j i hj => by omega), Below.refl _ _⟩
  case round =>
    obtain ⟨k, hk, rfl, rfl, hM, hB⟩ := hrel
    by_cases hlt : k < n
    · have hk0 : (0 : Int) ≤ (k : Int) := Int.natCast_nonneg _
      have hk1 : (k : Int) < (n : Int) := by omega
      obtain ⟨b, o, rfl, hbl, hc⟩ := hR'.out.lit (by omega) (by omega)
      have hg : l[k]? = some (l[k]'(by rw [HL.out]; exact hlt)) := List.getElem?_eq_getElem _
      generalize l[k]'(by rw [HL.out]; exact hlt) = ins at hg
      obtain ⟨op, a, b', imm⟩ := ins
      obtain ⟨c0, c1, c2, c3⟩ := cellsI_get _ _ _ hg
      have c0 := (hB.out.cell (p := ⟨b, o + k * 4, none⟩) hbl).trans (hc _ _ c0)
      have c1 := (hB.out.cell (p := ⟨b, o + (k * 4 + 1), none⟩) hbl).trans (hc _ _ c1)
      have c2 := (hB.out.cell (p := ⟨b, o + (k * 4 + 2), none⟩) hbl).trans (hc _ _ c2)
      have c3 := (hB.out.cell (p := ⟨b, o + (k * 4 + 3), none⟩) hbl).trans (hc _ _ c3)
      simp only [← Nat.add_assoc] at c0 c1 c2 c3
      have HG := hide hg
      clear hg hc
      have hsw := hB.out.size
      have hpl := textI_len l k hM.out
      cases hm : mayB op a b' imm with
      | true =>
        obtain ⟨m, rfl⟩ := Int.eq_ofNat_of_zero_le (show 0 ≤ op by have := (mayB_in hm).1; omega)
        have HM := hide hm
        have hM2 := hide (allM_succ hM.out HG.out hm)
        clear hm
        go_wp2_with fail
        refine (rline_ok m a b' imm _ HM.out).mono ?_
        rintro e x1 ⟨rfl, hb⟩
        have hB1 := hide (hB.out.trans (hb.mono hB.out.size))
        have hll := lineL_len HM.out
        have hTX := hide (textI_take l HG.out)
        have hTX := hide (show textI (l.take (k + 1)) = textI (l.take k) ++ (lineL m a b' imm ++ [10]) from hTX.out)
        clear hb hB c0 c1 c2 c3
        generalize lineL m a b' imm = LL at hll hTX ⊢
        generalize textI (l.take k) = TT at hpl hTX ⊢
        go_wp2_with fail
        go_roundw
        case rel => exact ⟨k + 1, by omega, by go_num, by rw [hTX.out, str_app]; simp, hM2, hB1⟩
        case measure => simp [intOf]; omega
      | false =>
        have HM := hide hm
        have hE := hide (print_no HG.out (show mayI (op, a, b', imm) = false from hm))
        clear hm
        go_wp2_with fail
        refine (rline_no op a b' imm _ HM.out).mono ?_
        rintro e x1 ⟨rfl, hb⟩
        have hB1 := hide (hB.out.trans (hb.mono hB.out.size))
        clear hb hB c0 c1 c2 c3
        go_wp2_with fail
        go_ret2
        rw [hE.out.1, hE.out.2]
        exact ⟨rfl, hB1.out⟩
    · have hkn : k = n := by omega
      subst hkn
      have hk1 : ¬ (k : Int) < (k : Int) := by omega
      have hE := hide (print_yes (l := l) (by rw [HL.out]; exact hM.out))
      go_wp2_with fail
      go_ret2
      rw [hE.out.1, hE.out.2, List.take_of_length_le (by rw [HL.out]; exact Nat.le_refl _)]
      exact ⟨rfl, hB.out⟩

end Go.Proofs.YtijjamiidpikdaaDoor.Asm
