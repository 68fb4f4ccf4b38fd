/-
  The walk of asm.figures: a number's text. Conditions: a number of at most 2^40.
-/
import Derived.Test.YtijjamiidpikdaaDoorAsmPlain
import Derived.LoopTactic
import Derived.Deep.LoopGhost
import Derived.Outline
import Derived.IntWalk
import Derived.Laws.IdiomStrings
namespace Go.Proofs.YtijjamiidpikdaaDoor.Asm
open Go.RowKit

/-- one byte in a block of its own, as a string -/
theorem conv_one (w : World) (b : Nat) (x : Int) (h0 : 0 ≤ x) (h1 : x < 256) (hc : w.cell? ⟨b, 0, none⟩ = some (.int .u8 x)) :
    (convert 52 9 (.slice (some ⟨b, 0, none⟩) 1 1)).run Tryd.prog w = .ok (.string ⟨#[UInt8.ofNat x.toNat]⟩) w := by
  have := run_convert_bytes_back (P := Tryd.prog) w 52 9 5 ⟨b, 0, none⟩ 1 [UInt8.ofNat x.toNat] Tryd.underlying52 Tryd.underlying5 Tryd.underlying9 (fun j hj => by
    simp only [List.length_cons, List.length_nil] at hj
    obtain rfl : j = 0 := by omega
    have e : (⟨b, 0, none⟩ : Addr).add 0 = ⟨b, 0, none⟩ := by simp [Addr.add]
    rw [e, hc]
    have : ((UInt8.ofNat x.toNat).toNat : Int) = x := by simp; omega
    simp only [List.getElem_cons_zero]
    rw [this])
  simpa using this

set_option maxHeartbeats 1600000 in
theorem figures_any (n : Int) (w : World) (h0 : -1099511627776 ≤ n) (h1 : n ≤ 1099511627776) :
    Calls Tryd.prog 23 #[.int .i64 n] w fun e w' => e = .returned (.string ⟨(figs n).toArray⟩) ∧ Below w.heap.size w w' := by
  by_cases hn : n < 0
  all_goals
    have hM : n.natAbs ≤ 1099511627776 := by omega
    go_enter Tryd.func23, Tryd.ntmps23
    go_wp2
    go_loopw [3, 4] (fun s i wr => ∃ (m : Nat) (t : List UInt8), m ≤ n.natAbs ∧ i = .int .i64 m ∧ s = .string ⟨t.toArray⟩ ∧ Hid ((t = [] ∧ m = n.natAbs) ∨ (t ≠ [] ∧ figN n.natAbs = dg m ++ t)) ∧ Hid (Below w.heap.size w wr)) (fun s i _ => 2 * (intOf i).toNat + isE s)
    case atStart => exact ⟨n.natAbs, [], Nat.le_refl _, by congr 1; omega, rfl, .inl ⟨rfl, rfl⟩, Below.refl _ _⟩
    case round =>
      obtain ⟨m, t, hm, rfl, rfl, hI, hB⟩ := hrel
      have hm0 : (0 : Int) ≤ (m : Int) := Int.natCast_nonneg _
      have hmb : (m : Int) ≤ 1099511627776 := by omega
      by_cases hgo : t = [] ∨ 0 < m
      · have hstep : Hid (figN n.natAbs = dg (m / 10) ++ (UInt8.ofNat (48 + m % 10) :: t)) := by
          rcases hI.out with ⟨rfl, rfl⟩ | ⟨ht, hf⟩
          · exact figN_step _
          · have h0m : m ≠ 0 := by rcases hgo with h | h; exact absurd h ht; omega
            show _ = _
            rw [hf, dg_step h0m, List.append_assoc]
            rfl
        have htl : t.length ≤ 14 := by
          rcases hI.out with ⟨rfl, _⟩ | ⟨_, hf⟩
          · simp
          · have := figN_len hM
            rw [hf, List.length_append] at this
            omega
        have hb0 : w.heap.size ≤ wr.heap.size := hB.out.size
        by_cases h0m : m = 0
        · subst h0m
          have ht : t = [] := by rcases hgo with h | h; exact h; omega
          subst ht
          clear hgo
          have hBn := hide (hB.out.alloc hb0 (.cells #[.int .u8 48] 5))
          have hcv := conv_one (wr.alloc (.cells #[.int .u8 48] 5)) wr.heap.size 48 (by omega) (by omega) (by go_simp)
          have hu : UInt8.ofNat (48 : Int).toNat = UInt8.ofNat (48 + 0 % 10) := rfl
          rw [hu] at hcv
          generalize UInt8.ofNat (48 + 0 % 10) = x at hstep hcv
          clear hu hI
          go_wp2
          go_roundw
          case rel => exact ⟨0, [x], by omega, by first | rfl | go_num, by first | rfl | rw [str_cons], hide (.inr ⟨by simp, hstep.out⟩), hBn⟩
          case measure => simp [intOf, isE, ByteArray.size]
        · have hpos : (0 : Int) < (m : Int) := by omega
          clear hgo
          have hBn := hide (hB.out.alloc hb0 (.cells #[.int .u8 (48 + (m : Int) % 10)] 5))
          have hcv := conv_one (wr.alloc (.cells #[.int .u8 (48 + (m : Int) % 10)] 5)) wr.heap.size (48 + (m : Int) % 10) (by omega) (by omega) (by go_simp)
          have hu : UInt8.ofNat (48 + (m : Int) % 10).toNat = UInt8.ofNat (48 + m % 10) := by congr 1 <;> omega
          rw [hu] at hcv
          generalize UInt8.ofNat (48 + m % 10) = x at hstep hcv
          clear hu hI
          go_wp2
          go_roundw
          case rel => exact ⟨m / 10, x :: t, by omega, by go_num, by rw [str_cons], hide (.inr ⟨by simp, hstep.out⟩), hBn⟩
          case measure => rw [str_cons]; simp [intOf, isE, ByteArray.size]; omega
      · have h0m : m = 0 := by omega
        subst h0m
        have ht : t ≠ [] := fun h => hgo (.inl h)
        have hF : figN n.natAbs = t := by
          rcases hI.out with ⟨h, _⟩ | ⟨_, hf⟩
          · exact absurd h ht
          · rw [hf, dg_zero]; rfl
        have HF := hide hF
        have htl : t.length ≤ 14 := by have := figN_len hM; rw [hF] at this; exact this
        obtain ⟨x, t', rfl⟩ : ∃ x t', t = x :: t' := by cases t with
          | nil => exact absurd rfl ht
          | cons x t' => exact ⟨x, t', rfl⟩
        have htl2 : t'.length ≤ 13 := by simpa using htl
        clear hI hgo hF ht htl
        go_wp2
        go_ret
        refine ⟨?_, hB.out⟩
        unfold figs
        rw [HF.out]
        first
          | (rw [if_pos hn, str_cons]; rfl)
          | (rw [if_neg (by omega)]; rfl)

end Go.Proofs.YtijjamiidpikdaaDoor.Asm
