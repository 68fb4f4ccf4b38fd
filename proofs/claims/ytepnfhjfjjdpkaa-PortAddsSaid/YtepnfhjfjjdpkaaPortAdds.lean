/-
  PortAdds: what is sent into a queue that isn't full waits behind all that waited, which is as it was: the walk. Conditions: the list has room for one more.
-/
import Derived.Test.YtepnfhjfjjdpkaaPortSend
import Derived.Test.YtepnfhjfjjdpkaaPortShown
import Derived.Test.YtepnfhjfjjdpkaaPortEq
namespace Go.Proofs.Ytepnfhjfjjdpkaa.Port
open Go.RowKit

theorem Rd.take {w : World} {A : Option Addr} {n c : Nat} {ms : List Msg} {x : Msg} (h : Rd w A (n + 1) c (ms ++ [x])) : Rd w A n c ms := by
  obtain ⟨h1, h2, h3, h4, h5⟩ := h
  have hl : ms.length = n := by simpa using h1
  refine ⟨hl, by omega, h3, h4, fun b hb => ⟨fun hn => (h5 b hb).1 (by omega), fun j u hu => (h5 b hb).2 j u ?_⟩⟩
  rw [cellsM_append, List.getElem?_append_left (List.getElem?_eq_some_iff.1 hu).1]
  exact hu

set_option maxHeartbeats 1600000 in
theorem adds_walk (kind fr to size depth lost now : Int) (A : Option Addr) (n c : Nat) (ms : List Msg) (body : ByteArray) (w : World) (hA : Rd w A n c ms) (hroom : (n + 1) * 24 ≤ 140737488355328) (hm : body.size ≤ maxLen) :
    Calls Try.prog 7 #[.agg #[.int .i64 kind, .int .i64 fr, .int .i64 to, .int .i64 size, .int .i64 depth, .slice A n c, .int .i64 lost, .int .u64 now, .string body]] w fun e w' =>
      e = .returned (.bool true) ∧ Below w.heap.size w w' := by
  have hnc := hA.2.1
  have hcm : c ≤ 9223372036854775807 := hA.2.2.1
  have hA' := hide hA
  have hM := hide hm
  have hL := hide hA.1
  have hm' : body.size ≤ 9223372036854775807 := hm
  clear hA hm
  by_cases h3 : size < (body.size : Int)
  · go_enter Try.func7, Try.ntmps7
    go_wp2_with fail
    refine (shown_any _).mono ?_
    rintro e w1 ⟨rfl, hb1⟩
    have hK1 := hide (show Below w.heap.size w w1 from (((below_new w _).alloc (by simp) _).alloc (by simp <;> omega) _).trans (hb1.mono (by simp <;> omega)))
    have hs1 := hb1.size
    simp only [World.size_alloc] at hs1
    obtain ⟨hc1, hf1⟩ := bcell hb1
    have o1 : w.heap.size + 1 < w1.heap.size := by omega
    have o2 : w.heap.size + 1 + 1 < w1.heap.size := by omega
    clear hb1
    go_wp2_with fail
    refine (send_big kind fr to size depth lost now A n c body _ hM.out h3).mono ?_
    rintro e w2 ⟨rfl, hb2⟩
    have hs2 := hb2.size
    have hK2 := hide ((hK1.out.trans (hb2.mono hK1.out.size)).alloc (by have := hK1.out.size; omega) (.cells #[.slice A n c, .int .i64 lost] 26))
    obtain ⟨hc2, hf2⟩ := bcell hb2
    have p1 : w.heap.size + 1 < w2.heap.size := by omega
    have p2 : w.heap.size + 1 + 1 < w2.heap.size := by omega
    have k0 : w2.cell? ⟨w.heap.size + 1, 0, none⟩ = some (.int .i64 kind) := (hc2 _ _ (by omega)).trans (by go_simp)
    have k4 : w2.cell? ⟨w.heap.size + 1, 4, none⟩ = some (.int .i64 depth) := (hc2 _ _ (by omega)).trans (by go_simp)
    have l0 : w2.cell? ⟨w.heap.size + 1 + 1, 0, none⟩ = some (.slice A n c) := (hc2 _ _ (by omega)).trans (by go_simp)
    have l1 : w2.cell? ⟨w.heap.size + 1 + 1, 1, none⟩ = some (.int .i64 lost) := (hc2 _ _ (by omega)).trans (by go_simp)
    clear hb2 hc2
    have hR := hide (hA'.out.below hK2.out)
    go_wp2_with fail
    refine (same_any A A n c n c lost lost ms ms _ (by exact hR.out) (by exact hR.out) true (by simp)).mono ?_
    rintro e w3 ⟨rfl, hb3⟩
    have hK3 := hide (hK2.out.trans (hb3.mono hK2.out.size))
    go_wp2
    go_ret
    exact ⟨rfl, hK3.out⟩
  by_cases h1 : kind = 1
  · subst h1
    go_enter Try.func7, Try.ntmps7
    go_wp2_with fail
    refine (shown_any _).mono ?_
    rintro e w1 ⟨rfl, hb1⟩
    have hK1 := hide (show Below w.heap.size w w1 from (((below_new w _).alloc (by simp) _).alloc (by simp <;> omega) _).trans (hb1.mono (by simp <;> omega)))
    have hs1 := hb1.size
    simp only [World.size_alloc] at hs1
    obtain ⟨hc1, hf1⟩ := bcell hb1
    have o1 : w.heap.size + 1 < w1.heap.size := by omega
    have o2 : w.heap.size + 1 + 1 < w1.heap.size := by omega
    clear hb1
    go_wp2_with fail
    refine (send_sample fr to size depth lost now A n c body _ hM.out (by omega)).mono ?_
    rintro e w2 ⟨A2, c2, rfl, -, -, hb2⟩
    have hs2 := hb2.size
    have hK2 := hide ((hK1.out.trans (hb2.mono hK1.out.size)).alloc (by have := hK1.out.size; omega) (.cells #[.slice A2 1 c2, .int .i64 lost] 26))
    obtain ⟨hc2, hf2⟩ := bcell hb2
    have p1 : w.heap.size + 1 < w2.heap.size := by omega
    have p2 : w.heap.size + 1 + 1 < w2.heap.size := by omega
    have k0 : w2.cell? ⟨w.heap.size + 1, 0, none⟩ = some (.int .i64 1) := (hc2 _ _ (by omega)).trans (by go_simp)
    have k4 : w2.cell? ⟨w.heap.size + 1, 4, none⟩ = some (.int .i64 depth) := (hc2 _ _ (by omega)).trans (by go_simp)
    have l0 : w2.cell? ⟨w.heap.size + 1 + 1, 0, none⟩ = some (.slice A n c) := (hc2 _ _ (by omega)).trans (by go_simp)
    have l1 : w2.cell? ⟨w.heap.size + 1 + 1, 1, none⟩ = some (.int .i64 lost) := (hc2 _ _ (by omega)).trans (by go_simp)
    clear hb2 hc2
    go_wp2
    go_ret
    exact ⟨rfl, hK2.out⟩
  have hk : (kind == 1) = false := by rw [beq_eq_false_iff_ne]; exact h1
  by_cases h2 : (n : Int) < depth
  · go_enter Try.func7, Try.ntmps7
    go_wp2_with fail
    refine (shown_any _).mono ?_
    rintro e w1 ⟨rfl, hb1⟩
    have hK1 := hide (show Below w.heap.size w w1 from (((below_new w _).alloc (by simp) _).alloc (by simp <;> omega) _).trans (hb1.mono (by simp <;> omega)))
    have hs1 := hb1.size
    simp only [World.size_alloc] at hs1
    obtain ⟨hc1, hf1⟩ := bcell hb1
    have o1 : w.heap.size + 1 < w1.heap.size := by omega
    have o2 : w.heap.size + 1 + 1 < w1.heap.size := by omega
    clear hb1
    go_wp2_with fail
    refine (send_queue kind fr to size depth lost now A n c ms body _ (by exact hA'.out.below hK1.out) hroom hM.out (by omega) hk h2).mono ?_
    rintro e w2 ⟨A2, c2, rfl, -, hR2, hb2⟩
    have hs2 := hb2.size
    have hK2 := hide ((hK1.out.trans (hb2.mono hK1.out.size)).alloc (by have := hK1.out.size; omega) (.cells #[.slice A2 (n + 1) c2, .int .i64 lost] 26))
    obtain ⟨hc2, hf2⟩ := bcell hb2
    have p1 : w.heap.size + 1 < w2.heap.size := by omega
    have p2 : w.heap.size + 1 + 1 < w2.heap.size := by omega
    have k0 : w2.cell? ⟨w.heap.size + 1, 0, none⟩ = some (.int .i64 kind) := (hc2 _ _ (by omega)).trans (by go_simp)
    have k4 : w2.cell? ⟨w.heap.size + 1, 4, none⟩ = some (.int .i64 depth) := (hc2 _ _ (by omega)).trans (by go_simp)
    have l0 : w2.cell? ⟨w.heap.size + 1 + 1, 0, none⟩ = some (.slice A n c) := (hc2 _ _ (by omega)).trans (by go_simp)
    have l1 : w2.cell? ⟨w.heap.size + 1 + 1, 1, none⟩ = some (.int .i64 lost) := (hc2 _ _ (by omega)).trans (by go_simp)
    have hR := hide (hA'.out.below hK2.out)
    have hRt := hide hR2.take
    have hKw := hide (hK1.out.trans (hb2.mono hK1.out.size))
    have hsw := hide (Nat.le_trans hK1.out.size hs2)
    have hc2m : c2 ≤ 9223372036854775807 := hR2.2.2.1
    have hnc2 : n + 1 ≤ c2 := hR2.2.1
    obtain ⟨b, o, rfl, hb, hcell⟩ := hR2.lit (by omega)
    obtain ⟨g0, g1⟩ := hcell n (now, body) (by rw [List.getElem?_append_right (by rw [hL.out]; omega), hL.out]; simp)
    simp only at g0 g1
    clear hb2 hc2 hR2 hcell
    have hn0 : (0 : Int) ≤ (n : Int) := Int.natCast_nonneg _
    have hn1 : (n : Int) < (n : Int) + 1 := by omega
    go_wp2_with fail
    refine (same_any (some ⟨b, o, none⟩) A n c2 n c lost lost ms ms _ (by exact hRt.out.alloc _) (by exact (hA'.out.below hKw.out).alloc _) true (by simp)).mono ?_
    rintro e w3 ⟨rfl, hb3⟩
    have hK3 := hide ((hKw.out.alloc hsw.out _).trans (hb3.mono (by simp only [World.size_alloc]; exact Nat.le_succ_of_le hsw.out)))
    go_wp2
    go_ret
    exact ⟨rfl, hK3.out⟩
  · go_enter Try.func7, Try.ntmps7
    go_wp2_with fail
    refine (shown_any _).mono ?_
    rintro e w1 ⟨rfl, hb1⟩
    have hK1 := hide (show Below w.heap.size w w1 from (((below_new w _).alloc (by simp) _).alloc (by simp <;> omega) _).trans (hb1.mono (by simp <;> omega)))
    have hs1 := hb1.size
    simp only [World.size_alloc] at hs1
    obtain ⟨hc1, hf1⟩ := bcell hb1
    have o1 : w.heap.size + 1 < w1.heap.size := by omega
    have o2 : w.heap.size + 1 + 1 < w1.heap.size := by omega
    clear hb1
    go_wp2_with fail
    refine (send_lost kind fr to size depth lost now A n c body _ hM.out (Nat.le_trans hnc hcm) (by omega) hk (by omega)).mono ?_
    rintro e w2 ⟨rfl, hb2⟩
    have hs2 := hb2.size
    have hK2 := hide ((hK1.out.trans (hb2.mono hK1.out.size)).alloc (by have := hK1.out.size; omega) (.cells #[.slice A n c, .int .i64 (wrap64 (lost + 1))] 26))
    obtain ⟨hc2, hf2⟩ := bcell hb2
    have p1 : w.heap.size + 1 < w2.heap.size := by omega
    have p2 : w.heap.size + 1 + 1 < w2.heap.size := by omega
    have k0 : w2.cell? ⟨w.heap.size + 1, 0, none⟩ = some (.int .i64 kind) := (hc2 _ _ (by omega)).trans (by go_simp)
    have k4 : w2.cell? ⟨w.heap.size + 1, 4, none⟩ = some (.int .i64 depth) := (hc2 _ _ (by omega)).trans (by go_simp)
    have l0 : w2.cell? ⟨w.heap.size + 1 + 1, 0, none⟩ = some (.slice A n c) := (hc2 _ _ (by omega)).trans (by go_simp)
    have l1 : w2.cell? ⟨w.heap.size + 1 + 1, 1, none⟩ = some (.int .i64 lost) := (hc2 _ _ (by omega)).trans (by go_simp)
    clear hb2 hc2
    go_wp2
    go_ret
    exact ⟨rfl, hK2.out⟩

end Go.Proofs.Ytepnfhjfjjdpkaa.Port
