/-
  PortFull: into a queue that is full nothing comes: the walk. Conditions: none.
-/
import Derived.Test.YtepnfhjfjjdpkaaPortSend
import Derived.Test.YtepnfhjfjjdpkaaPortShown
import Derived.Test.YtepnfhjfjjdpkaaPortEq
namespace Go.Proofs.Ytepnfhjfjjdpkaa.Port
open Go.RowKit

set_option maxHeartbeats 1600000 in
theorem full_walk (kind fr to size depth lost now : Int) (A : Option Addr) (n c : Nat) (ms : List Msg) (body : ByteArray) (w : World) (hA : Rd w A n c ms) (hm : body.size ≤ maxLen) :
    Calls Try.prog 9 #[.agg #[.int .i64 kind, .int .i64 fr, .int .i64 to, .int .i64 size, .int .i64 depth, .slice A n c, .int .i64 lost, .int .u64 now, .string body]] w fun e w' =>
      e = .returned (.bool true) ∧ Below w.heap.size w w' := by
  have hnc := hA.2.1
  have hcm : c ≤ 9223372036854775807 := hA.2.2.1
  have hA' := hide hA
  have hM := hide hm
  have hm' : body.size ≤ 9223372036854775807 := hm
  clear hA hm
  by_cases h1 : kind = 1
  · go_enter Try.func9, Try.ntmps9
    go_wp2_with fail
    refine (shown_any _).mono ?_
    rintro e w1 ⟨rfl, hb1⟩
    have hK1 := hide (show Below w.heap.size w w1 from (((below_new w _).alloc (by simp) _).alloc (by simp <;> omega) _).trans (hb1.mono (by simp <;> omega)))
    have hs1 := hb1.size
    simp only [World.size_alloc] at hs1
    obtain ⟨hc1, hf1⟩ := bcell hb1
    have o1 : w.heap.size + 1 < w1.heap.size := by omega
    have o2 : w.heap.size + 1 + 1 < w1.heap.size := by omega
    clear hb1
    go_wp2
    all_goals go_ret
    all_goals exact ⟨rfl, hK1.out⟩
  have hk : (kind == 1) = false := by rw [beq_eq_false_iff_ne]; exact h1
  by_cases h2 : (n : Int) < depth
  · go_enter Try.func9, Try.ntmps9
    go_wp2_with fail
    refine (shown_any _).mono ?_
    rintro e w1 ⟨rfl, hb1⟩
    have hK1 := hide (show Below w.heap.size w w1 from (((below_new w _).alloc (by simp) _).alloc (by simp <;> omega) _).trans (hb1.mono (by simp <;> omega)))
    have hs1 := hb1.size
    simp only [World.size_alloc] at hs1
    obtain ⟨hc1, hf1⟩ := bcell hb1
    have o1 : w.heap.size + 1 < w1.heap.size := by omega
    have o2 : w.heap.size + 1 + 1 < w1.heap.size := by omega
    clear hb1
    go_wp2
    all_goals go_ret
    all_goals exact ⟨rfl, hK1.out⟩
  by_cases h3 : size < (body.size : Int)
  · go_enter Try.func9, Try.ntmps9
    go_wp2_with fail
    refine (shown_any _).mono ?_
    rintro e w1 ⟨rfl, hb1⟩
    have hK1 := hide (show Below w.heap.size w w1 from (((below_new w _).alloc (by simp) _).alloc (by simp <;> omega) _).trans (hb1.mono (by simp <;> omega)))
    have hs1 := hb1.size
    simp only [World.size_alloc] at hs1
    obtain ⟨hc1, hf1⟩ := bcell hb1
    have o1 : w.heap.size + 1 < w1.heap.size := by omega
    have o2 : w.heap.size + 1 + 1 < w1.heap.size := by omega
    clear hb1
    go_wp2
    all_goals go_ret
    all_goals exact ⟨rfl, hK1.out⟩
  by_cases h4 : 1099511627776 < lost
  · go_enter Try.func9, Try.ntmps9
    go_wp2_with fail
    refine (shown_any _).mono ?_
    rintro e w1 ⟨rfl, hb1⟩
    have hK1 := hide (show Below w.heap.size w w1 from (((below_new w _).alloc (by simp) _).alloc (by simp <;> omega) _).trans (hb1.mono (by simp <;> omega)))
    have hs1 := hb1.size
    simp only [World.size_alloc] at hs1
    obtain ⟨hc1, hf1⟩ := bcell hb1
    have o1 : w.heap.size + 1 < w1.heap.size := by omega
    have o2 : w.heap.size + 1 + 1 < w1.heap.size := by omega
    clear hb1
    go_wp2
    all_goals go_ret
    all_goals exact ⟨rfl, hK1.out⟩
  by_cases h5 : lost < 0
  · go_enter Try.func9, Try.ntmps9
    go_wp2_with fail
    refine (shown_any _).mono ?_
    rintro e w1 ⟨rfl, hb1⟩
    have hK1 := hide (show Below w.heap.size w w1 from (((below_new w _).alloc (by simp) _).alloc (by simp <;> omega) _).trans (hb1.mono (by simp <;> omega)))
    have hs1 := hb1.size
    simp only [World.size_alloc] at hs1
    obtain ⟨hc1, hf1⟩ := bcell hb1
    have o1 : w.heap.size + 1 < w1.heap.size := by omega
    have o2 : w.heap.size + 1 + 1 < w1.heap.size := by omega
    clear hb1
    go_wp2
    all_goals go_ret
    all_goals exact ⟨rfl, hK1.out⟩
  have hk1 : ¬ kind = 1 := h1
  · go_enter Try.func9, Try.ntmps9
    go_wp2_with fail
    refine (shown_any _).mono ?_
    rintro e w1 ⟨rfl, hb1⟩
    have hK1 := hide (show Below w.heap.size w w1 from (((below_new w _).alloc (by simp) _).alloc (by simp <;> omega) _).trans (hb1.mono (by simp <;> omega)))
    have hs1 := hb1.size
    simp only [World.size_alloc] at hs1
    obtain ⟨hc1, hf1⟩ := bcell hb1
    have o1 : w.heap.size + 1 < w1.heap.size := by omega
    have o2 : w.heap.size + 1 + 1 < w1.heap.size := by omega
    clear hb1
    go_wp2_with fail
    refine (send_lost kind fr to size depth lost now A n c body _ hM.out (Nat.le_trans hnc hcm) (by omega) hk (by omega)).mono ?_
    rw [show wrap64 (lost + 1) = lost + 1 from IntWalk.wrap64_in _ ⟨by omega, by omega⟩]
    rintro e w2 ⟨rfl, hb2⟩
    have hs2 := hb2.size
    have hK2 := hide ((hK1.out.trans (hb2.mono hK1.out.size)).alloc (by have := hK1.out.size; omega) (.cells #[.slice A n c, .int .i64 (lost + 1)] 26))
    obtain ⟨hc2, hf2⟩ := bcell hb2
    have p1 : w.heap.size + 1 < w2.heap.size := by omega
    have p2 : w.heap.size + 1 + 1 < w2.heap.size := by omega
    have l0 : w2.cell? ⟨w.heap.size + 1 + 1, 0, none⟩ = some (.slice A n c) := (hc2 _ _ (by omega)).trans (by go_simp)
    have l1 : w2.cell? ⟨w.heap.size + 1 + 1, 1, none⟩ = some (.int .i64 lost) := (hc2 _ _ (by omega)).trans (by go_simp)
    clear hb2 hc2
    have hR := hide (hA'.out.below hK2.out)
    go_wp2_with fail
    refine (same_any A A n c n c lost lost ms ms _ (by exact hR.out) (by exact hR.out) true (by simp)).mono ?_
    rintro e w3 ⟨rfl, hb3⟩
    have hK3 := hide (hK2.out.trans (hb3.mono hK2.out.size))
    go_wp2
    go_ret
    exact ⟨rfl, hK3.out⟩

end Go.Proofs.Ytepnfhjfjjdpkaa.Port
