/-
  PortTakes: what is taken is what would have been looked at; of a queue one fewer waits then, and the others are as they were: the walk. Conditions: none.
-/
import Derived.Test.YtepnfhjfjjdpkaaPortShown
import Derived.Test.YtepnfhjfjjdpkaaPortEq
import Derived.Deep.RegionHeld3
namespace Go.Proofs.Ytepnfhjfjjdpkaa.Port
open Go.RowKit

theorem Rd.tailc {w : World} {A : Option Addr} {n c : Nat} {m : Msg} {ms : List Msg} (h : Rd w A n c (m :: ms)) (hc : c ≠ 1) : Rd w (A.map fun x => ⟨x.block, x.off + 2, none⟩) (n - 1) (c - 1) ms := by
  obtain ⟨h1, h2, h3, h4, h5⟩ := h
  have hl : ms.length = n - 1 := by simp at h1; omega
  have hn : 1 ≤ n := by simp at h1; omega
  refine ⟨hl, by omega, by omega, (fun e => ?_), fun b hb => ?_⟩
  · have : A = none := by cases A with
      | none => rfl
      | some a => cases e
    have := h4 this
    omega
  · cases A with
    | none => cases hb
    | some a =>
      simp only [Option.map_some, Option.some.injEq] at hb
      subst hb
      refine ⟨fun hk => (h5 a rfl).1 (by omega), fun j u hu => ?_⟩
      have e : (⟨a.block, a.off + 2, none⟩ : Addr).add j = a.add (j + 2) := by
        unfold Addr.add
        by_cases hj : j = 0
        · subst hj; simp
        · simp [hj]; omega
      rw [e]
      exact (h5 a rfl).2 (j + 2) u (by rw [← hu]; rfl)
theorem Rd.tail0 {w : World} {A : Option Addr} {n : Nat} {m : Msg} {ms : List Msg} (h : Rd w A n 1 (m :: ms)) : Rd w A (n - 1) (1 - 1) ms := by
  obtain ⟨h1, h2, h3, h4, h5⟩ := h
  have hl : ms.length = n - 1 := by simp at h1; omega
  have e : ms = [] := List.eq_nil_of_length_eq_zero (by omega)
  subst e
  exact ⟨hl, by omega, by simp [maxLen], (fun _ => rfl), fun b hb => ⟨(fun h => by omega), (fun j u hu => by simp [cellsM] at hu)⟩⟩

/-- what the last statement reads, and what its call keeps -/
def KT (w0 : World) (g1 g2 : Nat) (a0 a1 b0 b1 : Value) (A : Option Addr) (n c : Nat) (B : Option Addr) (m d : Nat) (ms : List Msg) (w : World) : Prop :=
  w.cell? ⟨g1, 0, none⟩ = some a0 ∧ w.cell? ⟨g1, 1, none⟩ = some a1 ∧ w.cell? ⟨g2, 0, none⟩ = some b0 ∧ w.cell? ⟨g2, 1, none⟩ = some b1 ∧
  Hid (Rd w A n c ms) ∧ Hid (Rd w B m d ms) ∧ Hid (Below w0.heap.size w0 w) ∧ Hid (w0.heap.size ≤ w.heap.size)
theorem KT.keep {w0 : World} {g1 g2 : Nat} {a0 a1 b0 b1 : Value} {A : Option Addr} {n c : Nat} {B : Option Addr} {m d : Nat} {ms : List Msg} {w w' : World} (h : KT w0 g1 g2 a0 a1 b0 b1 A n c B m d ms w) (hb : Below w.heap.size w w') : KT w0 g1 g2 a0 a1 b0 b1 A n c B m d ms w' := by
  have step : ∀ {a : Addr} {v : Value}, w.cell? a = some v → w'.cell? a = some v := fun h => (hb.cell (World.block_lt_of_cell? _ _ h)).trans h
  obtain ⟨h1, h2, h3, h4, h5, h6, hB, hs⟩ := h
  exact ⟨step h1, step h2, step h3, step h4, h5.out.below hb, h6.out.below hb, hB.out.trans (hb.mono hs.out), Nat.le_trans hs.out hb.size⟩

set_option maxHeartbeats 1600000 in
theorem takes_none (kind fr to size depth lost : Int) (A : Option Addr) (n c : Nat) (w : World) (hA : Rd w A n c []) :
    Calls Try.prog 8 #[.agg #[.int .i64 kind, .int .i64 fr, .int .i64 to, .int .i64 size, .int .i64 depth], .agg #[.slice A n c, .int .i64 lost]] w fun e w' =>
      e = .returned (.bool true) ∧ Below w.heap.size w w' := by
  have hnc := hA.2.1
  have hcm : c ≤ 9223372036854775807 := hA.2.2.1
  have hA' := hide hA
  obtain rfl : n = 0 := hA.1.symm
  clear hA
  · go_enter Try.func8, Try.ntmps8
    go_wp2_with fail
    refine (shown_any _).mono ?_
    rintro e w1 ⟨rfl, hb1⟩
    have hK1 := hide (show Below w.heap.size w w1 from ((below_new w _).alloc (by simp) _).trans (hb1.mono (by simp <;> omega)))
    have hs1 := hb1.size
    simp only [World.size_alloc] at hs1
    obtain ⟨hc1, hf1⟩ := bcell hb1
    have o0 : w.heap.size < w1.heap.size := by omega
    have o1 : w.heap.size + 1 < w1.heap.size := by omega
    clear hb1
    go_wp2_with fail
    refine (peek_none kind fr to size depth lost A c _).mono ?_
    rintro e w2 ⟨rfl, hb2⟩
    have hs2 := hb2.size
    skip
    obtain ⟨hc2, hf2⟩ := bcell hb2
    have o20 : w.heap.size < w2.heap.size := by omega
    have o21 : w.heap.size + 1 < w2.heap.size := by omega
    have c2_0 : w2.cell? ⟨w.heap.size, 0, none⟩ = some (.int .i64 kind) := (hc2 _ _ (by first | omega | (simp <;> omega))).trans (by go_simp)
    have c2_1 : w2.cell? ⟨w.heap.size, 1, none⟩ = some (.int .i64 fr) := (hc2 _ _ (by first | omega | (simp <;> omega))).trans (by go_simp)
    have c2_2 : w2.cell? ⟨w.heap.size, 2, none⟩ = some (.int .i64 to) := (hc2 _ _ (by first | omega | (simp <;> omega))).trans (by go_simp)
    have c2_3 : w2.cell? ⟨w.heap.size, 3, none⟩ = some (.int .i64 size) := (hc2 _ _ (by first | omega | (simp <;> omega))).trans (by go_simp)
    have c2_4 : w2.cell? ⟨w.heap.size, 4, none⟩ = some (.int .i64 depth) := (hc2 _ _ (by first | omega | (simp <;> omega))).trans (by go_simp)
    have l2_0 : w2.cell? ⟨w.heap.size + 1, 0, none⟩ = some (.slice A 0 c) := (hc2 _ _ (by first | omega | (simp <;> omega))).trans (by go_simp)
    have l2_1 : w2.cell? ⟨w.heap.size + 1, 1, none⟩ = some (.int .i64 lost) := (hc2 _ _ (by first | omega | (simp <;> omega))).trans (by go_simp)
    have hK2 := hide ((hK1.out.trans (hb2.mono hK1.out.size)).alloc (by omega) (.cells #[.int .u64 0, .string .empty] 39))
    clear hb2 hc2 hc1
    go_wp2_with fail
    refine (take_none kind fr to size depth lost A c _).mono ?_
    rintro e w3 ⟨rfl, hb3⟩
    have hs3 := hb3.size
    simp only [World.size_alloc] at hs3
    obtain ⟨hc3, hf3⟩ := bcell hb3
    have o30 : w.heap.size < w3.heap.size := by omega
    have o31 : w.heap.size + 1 < w3.heap.size := by omega
    have c3_0 : w3.cell? ⟨w.heap.size, 0, none⟩ = some (.int .i64 kind) := (hc3 _ _ (by first | omega | (simp <;> omega))).trans (by go_simp)
    have c3_1 : w3.cell? ⟨w.heap.size, 1, none⟩ = some (.int .i64 fr) := (hc3 _ _ (by first | omega | (simp <;> omega))).trans (by go_simp)
    have c3_2 : w3.cell? ⟨w.heap.size, 2, none⟩ = some (.int .i64 to) := (hc3 _ _ (by first | omega | (simp <;> omega))).trans (by go_simp)
    have c3_3 : w3.cell? ⟨w.heap.size, 3, none⟩ = some (.int .i64 size) := (hc3 _ _ (by first | omega | (simp <;> omega))).trans (by go_simp)
    have c3_4 : w3.cell? ⟨w.heap.size, 4, none⟩ = some (.int .i64 depth) := (hc3 _ _ (by first | omega | (simp <;> omega))).trans (by go_simp)
    have l3_0 : w3.cell? ⟨w.heap.size + 1, 0, none⟩ = some (.slice A 0 c) := (hc3 _ _ (by first | omega | (simp <;> omega))).trans (by go_simp)
    have l3_1 : w3.cell? ⟨w.heap.size + 1, 1, none⟩ = some (.int .i64 lost) := (hc3 _ _ (by first | omega | (simp <;> omega))).trans (by go_simp)
    have m3_0 : w3.cell? ⟨w2.heap.size, 0, none⟩ = some (.int .u64 0) := (hc3 _ _ (by first | omega | (simp <;> omega))).trans (by go_simp)
    have m3_1 : w3.cell? ⟨w2.heap.size, 1, none⟩ = some (.string .empty) := (hc3 _ _ (by first | omega | (simp <;> omega))).trans (by go_simp)
    have o32 : w2.heap.size < w3.heap.size := by omega
    have hK3 := hide (((hK2.out.trans (hb3.mono hK2.out.size)).alloc (by omega) (.cells #[.slice A 0 c, .int .i64 lost] 26)).alloc (by simp only [World.size_alloc]; omega) (.cells #[.int .u64 0, .string .empty] 39))
    clear hb3 hc3
    have hR := hide (hA'.out.below hK3.out)
    go_wp2_with fail
    refine (same_any A A 0 c 0 c lost lost _ _ _ (by exact hR.out) (by exact hR.out) true (by simp)).mono ?_
    rintro e w4 ⟨rfl, hb4⟩
    have hK4 := hide (hK3.out.trans (hb4.mono hK3.out.size))
    have hs4 := hb4.size
    simp only [World.size_alloc] at hs4
    obtain ⟨hc4, hf4⟩ := bcell hb4
    have n0 : w4.cell? ⟨w3.heap.size + 1, 0, none⟩ = some (.int .u64 0) := (hc4 _ _ (by first | omega | (simp <;> omega))).trans (by go_simp)
    have n1 : w4.cell? ⟨w3.heap.size + 1, 1, none⟩ = some (.string .empty) := (hc4 _ _ (by first | omega | (simp <;> omega))).trans (by go_simp)
    clear hb4 hc4
    go_wp2
    go_ret
    exact ⟨rfl, hK4.out⟩

set_option maxHeartbeats 1600000 in
theorem takes_sample (fr to size depth lost : Int) (A : Option Addr) (n c : Nat) (m : Msg) (ms : List Msg) (w : World) (hA : Rd w A n c (m :: ms)) :
    Calls Try.prog 8 #[.agg #[.int .i64 1, .int .i64 fr, .int .i64 to, .int .i64 size, .int .i64 depth], .agg #[.slice A n c, .int .i64 lost]] w fun e w' =>
      e = .returned (.bool true) ∧ Below w.heap.size w w' := by
  have hnc := hA.2.1
  have hcm : c ≤ 9223372036854775807 := hA.2.2.1
  have hA' := hide hA
  have hn : 0 < n := by have := hA.1; simp at this; omega
  have hn0 : ((n : Int) == 0) = false := by rw [beq_eq_false_iff_ne]; omega
  clear hA
  · go_enter Try.func8, Try.ntmps8
    go_wp2_with fail
    refine (shown_any _).mono ?_
    rintro e w1 ⟨rfl, hb1⟩
    have hK1 := hide (show Below w.heap.size w w1 from ((below_new w _).alloc (by simp) _).trans (hb1.mono (by simp <;> omega)))
    have hs1 := hb1.size
    simp only [World.size_alloc] at hs1
    obtain ⟨hc1, hf1⟩ := bcell hb1
    have o0 : w.heap.size < w1.heap.size := by omega
    have o1 : w.heap.size + 1 < w1.heap.size := by omega
    clear hb1
    go_wp2_with fail
    refine (peek_one 1 fr to size depth lost A n c m ms _ (by exact hA'.out.below hK1.out)).mono ?_
    rintro e w2 ⟨rfl, hb2⟩
    have hs2 := hb2.size
    skip
    obtain ⟨hc2, hf2⟩ := bcell hb2
    have o20 : w.heap.size < w2.heap.size := by omega
    have o21 : w.heap.size + 1 < w2.heap.size := by omega
    have c2_0 : w2.cell? ⟨w.heap.size, 0, none⟩ = some (.int .i64 1) := (hc2 _ _ (by first | omega | (simp <;> omega))).trans (by go_simp)
    have c2_1 : w2.cell? ⟨w.heap.size, 1, none⟩ = some (.int .i64 fr) := (hc2 _ _ (by first | omega | (simp <;> omega))).trans (by go_simp)
    have c2_2 : w2.cell? ⟨w.heap.size, 2, none⟩ = some (.int .i64 to) := (hc2 _ _ (by first | omega | (simp <;> omega))).trans (by go_simp)
    have c2_3 : w2.cell? ⟨w.heap.size, 3, none⟩ = some (.int .i64 size) := (hc2 _ _ (by first | omega | (simp <;> omega))).trans (by go_simp)
    have c2_4 : w2.cell? ⟨w.heap.size, 4, none⟩ = some (.int .i64 depth) := (hc2 _ _ (by first | omega | (simp <;> omega))).trans (by go_simp)
    have l2_0 : w2.cell? ⟨w.heap.size + 1, 0, none⟩ = some (.slice A n c) := (hc2 _ _ (by first | omega | (simp <;> omega))).trans (by go_simp)
    have l2_1 : w2.cell? ⟨w.heap.size + 1, 1, none⟩ = some (.int .i64 lost) := (hc2 _ _ (by first | omega | (simp <;> omega))).trans (by go_simp)
    have hK2 := hide ((hK1.out.trans (hb2.mono hK1.out.size)).alloc (by omega) (.cells #[.int .u64 m.1, .string m.2] 39))
    clear hb2 hc2 hc1
    go_wp2_with fail
    refine (take_sample fr to size depth lost A n c m ms _ (by exact hA'.out.below hK2.out)).mono ?_
    rintro e w3 ⟨rfl, hb3⟩
    have hs3 := hb3.size
    simp only [World.size_alloc] at hs3
    obtain ⟨hc3, hf3⟩ := bcell hb3
    have o30 : w.heap.size < w3.heap.size := by omega
    have o31 : w.heap.size + 1 < w3.heap.size := by omega
    have c3_0 : w3.cell? ⟨w.heap.size, 0, none⟩ = some (.int .i64 1) := (hc3 _ _ (by first | omega | (simp <;> omega))).trans (by go_simp)
    have c3_1 : w3.cell? ⟨w.heap.size, 1, none⟩ = some (.int .i64 fr) := (hc3 _ _ (by first | omega | (simp <;> omega))).trans (by go_simp)
    have c3_2 : w3.cell? ⟨w.heap.size, 2, none⟩ = some (.int .i64 to) := (hc3 _ _ (by first | omega | (simp <;> omega))).trans (by go_simp)
    have c3_3 : w3.cell? ⟨w.heap.size, 3, none⟩ = some (.int .i64 size) := (hc3 _ _ (by first | omega | (simp <;> omega))).trans (by go_simp)
    have c3_4 : w3.cell? ⟨w.heap.size, 4, none⟩ = some (.int .i64 depth) := (hc3 _ _ (by first | omega | (simp <;> omega))).trans (by go_simp)
    have l3_0 : w3.cell? ⟨w.heap.size + 1, 0, none⟩ = some (.slice A n c) := (hc3 _ _ (by first | omega | (simp <;> omega))).trans (by go_simp)
    have l3_1 : w3.cell? ⟨w.heap.size + 1, 1, none⟩ = some (.int .i64 lost) := (hc3 _ _ (by first | omega | (simp <;> omega))).trans (by go_simp)
    have m3_0 : w3.cell? ⟨w2.heap.size, 0, none⟩ = some (.int .u64 m.1) := (hc3 _ _ (by first | omega | (simp <;> omega))).trans (by go_simp)
    have m3_1 : w3.cell? ⟨w2.heap.size, 1, none⟩ = some (.string m.2) := (hc3 _ _ (by first | omega | (simp <;> omega))).trans (by go_simp)
    have o32 : w2.heap.size < w3.heap.size := by omega
    have hK3 := hide (((hK2.out.trans (hb3.mono hK2.out.size)).alloc (by omega) (.cells #[.slice A n c, .int .i64 lost] 26)).alloc (by simp only [World.size_alloc]; omega) (.cells #[.int .u64 m.1, .string m.2] 39))
    clear hb3 hc3
    have hR := hide (hA'.out.below hK3.out)
    go_wp2_with fail
    refine (same_any A A n c n c lost lost _ _ _ (by exact hR.out) (by exact hR.out) true (by simp)).mono ?_
    rintro e w4 ⟨rfl, hb4⟩
    have hK4 := hide (hK3.out.trans (hb4.mono hK3.out.size))
    have hs4 := hb4.size
    simp only [World.size_alloc] at hs4
    obtain ⟨hc4, hf4⟩ := bcell hb4
    have n0 : w4.cell? ⟨w3.heap.size + 1, 0, none⟩ = some (.int .u64 m.1) := (hc4 _ _ (by first | omega | (simp <;> omega))).trans (by go_simp)
    have n1 : w4.cell? ⟨w3.heap.size + 1, 1, none⟩ = some (.string m.2) := (hc4 _ _ (by first | omega | (simp <;> omega))).trans (by go_simp)
    clear hb4 hc4
    go_wp2
    go_ret
    exact ⟨rfl, hK4.out⟩

set_option maxHeartbeats 1600000 in
theorem takes_queue (kind fr to size depth lost : Int) (A : Option Addr) (n c : Nat) (m : Msg) (ms : List Msg) (w : World) (hA : Rd w A n c (m :: ms)) (hk : (kind == 1) = false) (hc : ¬ c = 1) :
    Calls Try.prog 8 #[.agg #[.int .i64 kind, .int .i64 fr, .int .i64 to, .int .i64 size, .int .i64 depth], .agg #[.slice A n c, .int .i64 lost]] w fun e w' =>
      e = .returned (.bool true) ∧ Below w.heap.size w w' := by
  have hnc := hA.2.1
  have hcm : c ≤ 9223372036854775807 := hA.2.2.1
  have hA' := hide hA
  have hn : 0 < n := by have := hA.1; simp at this; omega
  have hn0 : ((n : Int) == 0) = false := by rw [beq_eq_false_iff_ne]; omega
  have hn1 : (1 : Int) ≤ n := by omega
  have hTail := hide (hA.tailc hc)
  clear hA
  · go_enter Try.func8, Try.ntmps8
    go_wp2_with fail
    refine (shown_any _).mono ?_
    rintro e w1 ⟨rfl, hb1⟩
    have hK1 := hide (show Below w.heap.size w w1 from ((below_new w _).alloc (by simp) _).trans (hb1.mono (by simp <;> omega)))
    have hs1 := hb1.size
    simp only [World.size_alloc] at hs1
    obtain ⟨hc1, hf1⟩ := bcell hb1
    have o0 : w.heap.size < w1.heap.size := by omega
    have o1 : w.heap.size + 1 < w1.heap.size := by omega
    clear hb1
    go_wp2_with fail
    refine (peek_one kind fr to size depth lost A n c m ms _ (by exact hA'.out.below hK1.out)).mono ?_
    rintro e w2 ⟨rfl, hb2⟩
    have hs2 := hb2.size
    skip
    obtain ⟨hc2, hf2⟩ := bcell hb2
    have o20 : w.heap.size < w2.heap.size := by omega
    have o21 : w.heap.size + 1 < w2.heap.size := by omega
    have c2_0 : w2.cell? ⟨w.heap.size, 0, none⟩ = some (.int .i64 kind) := (hc2 _ _ (by first | omega | (simp <;> omega))).trans (by go_simp)
    have c2_1 : w2.cell? ⟨w.heap.size, 1, none⟩ = some (.int .i64 fr) := (hc2 _ _ (by first | omega | (simp <;> omega))).trans (by go_simp)
    have c2_2 : w2.cell? ⟨w.heap.size, 2, none⟩ = some (.int .i64 to) := (hc2 _ _ (by first | omega | (simp <;> omega))).trans (by go_simp)
    have c2_3 : w2.cell? ⟨w.heap.size, 3, none⟩ = some (.int .i64 size) := (hc2 _ _ (by first | omega | (simp <;> omega))).trans (by go_simp)
    have c2_4 : w2.cell? ⟨w.heap.size, 4, none⟩ = some (.int .i64 depth) := (hc2 _ _ (by first | omega | (simp <;> omega))).trans (by go_simp)
    have l2_0 : w2.cell? ⟨w.heap.size + 1, 0, none⟩ = some (.slice A n c) := (hc2 _ _ (by first | omega | (simp <;> omega))).trans (by go_simp)
    have l2_1 : w2.cell? ⟨w.heap.size + 1, 1, none⟩ = some (.int .i64 lost) := (hc2 _ _ (by first | omega | (simp <;> omega))).trans (by go_simp)
    have hK2 := hide ((hK1.out.trans (hb2.mono hK1.out.size)).alloc (by omega) (.cells #[.int .u64 m.1, .string m.2] 39))
    clear hb2 hc2 hc1
    go_wp2_with fail
    refine (take_queue kind fr to size depth lost A n c m ms _ (by exact hA'.out.below hK2.out) hk).mono ?_
    rintro e w3 ⟨A3, rfl, hR3, hb3⟩
    have hs3 := hb3.size
    simp only [World.size_alloc] at hs3
    obtain ⟨hc3, hf3⟩ := bcell hb3
    have o30 : w.heap.size < w3.heap.size := by omega
    have o31 : w.heap.size + 1 < w3.heap.size := by omega
    have c3_0 : w3.cell? ⟨w.heap.size, 0, none⟩ = some (.int .i64 kind) := (hc3 _ _ (by first | omega | (simp <;> omega))).trans (by go_simp)
    have c3_1 : w3.cell? ⟨w.heap.size, 1, none⟩ = some (.int .i64 fr) := (hc3 _ _ (by first | omega | (simp <;> omega))).trans (by go_simp)
    have c3_2 : w3.cell? ⟨w.heap.size, 2, none⟩ = some (.int .i64 to) := (hc3 _ _ (by first | omega | (simp <;> omega))).trans (by go_simp)
    have c3_3 : w3.cell? ⟨w.heap.size, 3, none⟩ = some (.int .i64 size) := (hc3 _ _ (by first | omega | (simp <;> omega))).trans (by go_simp)
    have c3_4 : w3.cell? ⟨w.heap.size, 4, none⟩ = some (.int .i64 depth) := (hc3 _ _ (by first | omega | (simp <;> omega))).trans (by go_simp)
    have l3_0 : w3.cell? ⟨w.heap.size + 1, 0, none⟩ = some (.slice A n c) := (hc3 _ _ (by first | omega | (simp <;> omega))).trans (by go_simp)
    have l3_1 : w3.cell? ⟨w.heap.size + 1, 1, none⟩ = some (.int .i64 lost) := (hc3 _ _ (by first | omega | (simp <;> omega))).trans (by go_simp)
    have m3_0 : w3.cell? ⟨w2.heap.size, 0, none⟩ = some (.int .u64 m.1) := (hc3 _ _ (by first | omega | (simp <;> omega))).trans (by go_simp)
    have m3_1 : w3.cell? ⟨w2.heap.size, 1, none⟩ = some (.string m.2) := (hc3 _ _ (by first | omega | (simp <;> omega))).trans (by go_simp)
    have o32 : w2.heap.size < w3.heap.size := by omega
    have hK3 := hide (((hK2.out.trans (hb3.mono hK2.out.size)).alloc (by omega) (.cells #[.slice A3 (n - 1) (n - 1), .int .i64 lost] 26)).alloc (by simp only [World.size_alloc]; omega) (.cells #[.int .u64 m.1, .string m.2] 39))
    have hR3' := hide ((hR3.alloc (.cells #[.slice A3 (n - 1) (n - 1), .int .i64 lost] 26)).alloc (.cells #[.int .u64 m.1, .string m.2] 39))
    have hRt := hide (hTail.out.below hK3.out)
    clear hb3 hc3 hR3
    go_wp2_with fail
    have hS : KT w (w.heap.size + 1) w3.heap.size (.slice A n c) (.int .i64 lost) (.slice A3 (n - 1) (n - 1)) (.int .i64 lost) A3 (n - 1) (n - 1) (A.map fun x => ⟨x.block, x.off + 2, none⟩) (n - 1) (c - 1) ms ((w3.alloc (.cells #[.slice A3 (n - 1) (n - 1), .int .i64 lost] 26)).alloc (.cells #[.int .u64 m.1, .string m.2] 39)).drew := by
      refine ⟨?_, ?_, ?_, ?_, hR3'.out, hRt.out, hK3.out.drew, hK3.out.size⟩
      all_goals go_simp
    generalize ((w3.alloc (.cells #[.slice A3 (n - 1) (n - 1), .int .i64 lost] 26)).alloc (.cells #[.int .u64 m.1, .string m.2] 39)) = W at hS ⊢
    generalize w3.heap.size = g at hS ⊢
    clear hR3' hRt hK3 hK2 hK1 hs1 hs2 hs3 o0 o1 o20 o21 o30 o31 o32 c2_0 c2_1 c2_2 c2_3 c2_4 l2_0 l2_1 c3_0 c3_1 c3_2 c3_3 c3_4 l3_0 l3_1 m3_0 m3_1 hf1 hf2 hf3
    have hT1 := hide (fun (w' : World) (h : KT w (w.heap.size + 1) g (.slice A n c) (.int .i64 lost) (.slice A3 (n - 1) (n - 1)) (.int .i64 lost) A3 (n - 1) (n - 1) (A.map fun x => ⟨x.block, x.off + 2, none⟩) (n - 1) (c - 1) ms w') => h.2.2.2.2.1.out)
    have hT2 := hide (fun (w' : World) (h : KT w (w.heap.size + 1) g (.slice A n c) (.int .i64 lost) (.slice A3 (n - 1) (n - 1)) (.int .i64 lost) A3 (n - 1) (n - 1) (A.map fun x => ⟨x.block, x.off + 2, none⟩) (n - 1) (c - 1) ms w') => h.2.2.2.2.2.1.out)
    have hT3 := hide (fun (w' : World) (h : KT w (w.heap.size + 1) g (.slice A n c) (.int .i64 lost) (.slice A3 (n - 1) (n - 1)) (.int .i64 lost) A3 (n - 1) (n - 1) (A.map fun x => ⟨x.block, x.off + 2, none⟩) (n - 1) (c - 1) ms w') => h.2.2.2.2.2.2.1.out)
    go_region_held3 (fun w' => w'.cell? ⟨w.heap.size + 1, 0, none⟩ = some (.slice A n c) ∧ w'.cell? ⟨w.heap.size + 1, 1, none⟩ = some (.int .i64 lost) ∧ w'.cell? ⟨g, 0, none⟩ = some (.slice A3 (n - 1) (n - 1)) ∧ w'.cell? ⟨g, 1, none⟩ = some (.int .i64 lost) ∧ Hid (Rd w' A3 (n - 1) (n - 1) ms) ∧ Hid (Rd w' (A.map fun x => ⟨x.block, x.off + 2, none⟩) (n - 1) (c - 1) ms) ∧ Hid (Below w.heap.size w w') ∧ Hid (w.heap.size ≤ w'.heap.size))
      (first | exact hS | exact KT.keep (by assumption) (by assumption))
      (first
        | (go_at_call 18; refine (same_any A3 (A.map fun x => ⟨x.block, x.off + 2, none⟩) (n - 1) (n - 1) (n - 1) (c - 1) lost lost ms ms _ (by exact hT1.out _ (by assumption)) (by exact hT2.out _ (by assumption)) true (by simp)).mono ?_; rintro e wx ⟨rfl, hb⟩))
    all_goals go_wp2
    all_goals go_ret
    all_goals exact ⟨rfl, hT3.out _ (by assumption)⟩

set_option maxHeartbeats 1600000 in
theorem takes_queue1 (kind fr to size depth lost : Int) (A : Option Addr) (m : Msg) (ms : List Msg) (w : World) (hA : Rd w A 1 1 (m :: ms)) (hk : (kind == 1) = false) :
    Calls Try.prog 8 #[.agg #[.int .i64 kind, .int .i64 fr, .int .i64 to, .int .i64 size, .int .i64 depth], .agg #[.slice A 1 1, .int .i64 lost]] w fun e w' =>
      e = .returned (.bool true) ∧ Below w.heap.size w w' := by
  have hnc := hA.2.1
  have hA' := hide hA
  have hTail := hide (show Rd w A 0 0 ms from hA.tail0)
  clear hA
  · go_enter Try.func8, Try.ntmps8
    go_wp2_with fail
    refine (shown_any _).mono ?_
    rintro e w1 ⟨rfl, hb1⟩
    have hK1 := hide (show Below w.heap.size w w1 from ((below_new w _).alloc (by simp) _).trans (hb1.mono (by simp <;> omega)))
    have hs1 := hb1.size
    simp only [World.size_alloc] at hs1
    obtain ⟨hc1, hf1⟩ := bcell hb1
    have o0 : w.heap.size < w1.heap.size := by omega
    have o1 : w.heap.size + 1 < w1.heap.size := by omega
    clear hb1
    go_wp2_with fail
    refine (peek_one kind fr to size depth lost A 1 1 m ms _ (by exact hA'.out.below hK1.out)).mono ?_
    rintro e w2 ⟨rfl, hb2⟩
    have hs2 := hb2.size
    skip
    obtain ⟨hc2, hf2⟩ := bcell hb2
    have o20 : w.heap.size < w2.heap.size := by omega
    have o21 : w.heap.size + 1 < w2.heap.size := by omega
    have c2_0 : w2.cell? ⟨w.heap.size, 0, none⟩ = some (.int .i64 kind) := (hc2 _ _ (by first | omega | (simp <;> omega))).trans (by go_simp)
    have c2_1 : w2.cell? ⟨w.heap.size, 1, none⟩ = some (.int .i64 fr) := (hc2 _ _ (by first | omega | (simp <;> omega))).trans (by go_simp)
    have c2_2 : w2.cell? ⟨w.heap.size, 2, none⟩ = some (.int .i64 to) := (hc2 _ _ (by first | omega | (simp <;> omega))).trans (by go_simp)
    have c2_3 : w2.cell? ⟨w.heap.size, 3, none⟩ = some (.int .i64 size) := (hc2 _ _ (by first | omega | (simp <;> omega))).trans (by go_simp)
    have c2_4 : w2.cell? ⟨w.heap.size, 4, none⟩ = some (.int .i64 depth) := (hc2 _ _ (by first | omega | (simp <;> omega))).trans (by go_simp)
    have l2_0 : w2.cell? ⟨w.heap.size + 1, 0, none⟩ = some (.slice A 1 1) := (hc2 _ _ (by first | omega | (simp <;> omega))).trans (by go_simp)
    have l2_1 : w2.cell? ⟨w.heap.size + 1, 1, none⟩ = some (.int .i64 lost) := (hc2 _ _ (by first | omega | (simp <;> omega))).trans (by go_simp)
    have hK2 := hide ((hK1.out.trans (hb2.mono hK1.out.size)).alloc (by omega) (.cells #[.int .u64 m.1, .string m.2] 39))
    clear hb2 hc2 hc1
    go_wp2_with fail
    refine (take_queue kind fr to size depth lost A 1 1 m ms _ (by exact hA'.out.below hK2.out) hk).mono ?_
    rintro e w3 ⟨A3, rfl, hR3, hb3⟩
    have hs3 := hb3.size
    simp only [World.size_alloc] at hs3
    obtain ⟨hc3, hf3⟩ := bcell hb3
    have o30 : w.heap.size < w3.heap.size := by omega
    have o31 : w.heap.size + 1 < w3.heap.size := by omega
    have c3_0 : w3.cell? ⟨w.heap.size, 0, none⟩ = some (.int .i64 kind) := (hc3 _ _ (by first | omega | (simp <;> omega))).trans (by go_simp)
    have c3_1 : w3.cell? ⟨w.heap.size, 1, none⟩ = some (.int .i64 fr) := (hc3 _ _ (by first | omega | (simp <;> omega))).trans (by go_simp)
    have c3_2 : w3.cell? ⟨w.heap.size, 2, none⟩ = some (.int .i64 to) := (hc3 _ _ (by first | omega | (simp <;> omega))).trans (by go_simp)
    have c3_3 : w3.cell? ⟨w.heap.size, 3, none⟩ = some (.int .i64 size) := (hc3 _ _ (by first | omega | (simp <;> omega))).trans (by go_simp)
    have c3_4 : w3.cell? ⟨w.heap.size, 4, none⟩ = some (.int .i64 depth) := (hc3 _ _ (by first | omega | (simp <;> omega))).trans (by go_simp)
    have l3_0 : w3.cell? ⟨w.heap.size + 1, 0, none⟩ = some (.slice A 1 1) := (hc3 _ _ (by first | omega | (simp <;> omega))).trans (by go_simp)
    have l3_1 : w3.cell? ⟨w.heap.size + 1, 1, none⟩ = some (.int .i64 lost) := (hc3 _ _ (by first | omega | (simp <;> omega))).trans (by go_simp)
    have m3_0 : w3.cell? ⟨w2.heap.size, 0, none⟩ = some (.int .u64 m.1) := (hc3 _ _ (by first | omega | (simp <;> omega))).trans (by go_simp)
    have m3_1 : w3.cell? ⟨w2.heap.size, 1, none⟩ = some (.string m.2) := (hc3 _ _ (by first | omega | (simp <;> omega))).trans (by go_simp)
    have o32 : w2.heap.size < w3.heap.size := by omega
    have hK3 := hide (((hK2.out.trans (hb3.mono hK2.out.size)).alloc (by omega) (.cells #[.slice A3 0 0, .int .i64 lost] 26)).alloc (by simp only [World.size_alloc]; omega) (.cells #[.int .u64 m.1, .string m.2] 39))
    have hR3' := hide ((hR3.alloc (.cells #[.slice A3 0 0, .int .i64 lost] 26)).alloc (.cells #[.int .u64 m.1, .string m.2] 39))
    have hRt := hide (hTail.out.below hK3.out)
    clear hb3 hc3 hR3
    go_wp2_with fail
    have hS : KT w (w.heap.size + 1) w3.heap.size (.slice A 1 1) (.int .i64 lost) (.slice A3 0 0) (.int .i64 lost) A3 0 0 A 0 0 ms ((w3.alloc (.cells #[.slice A3 0 0, .int .i64 lost] 26)).alloc (.cells #[.int .u64 m.1, .string m.2] 39)).drew := by
      refine ⟨?_, ?_, ?_, ?_, hR3'.out, hRt.out, hK3.out.drew, hK3.out.size⟩
      all_goals go_simp
    generalize ((w3.alloc (.cells #[.slice A3 0 0, .int .i64 lost] 26)).alloc (.cells #[.int .u64 m.1, .string m.2] 39)) = W at hS ⊢
    generalize w3.heap.size = g at hS ⊢
    clear hR3' hRt hK3 hK2 hK1 hs1 hs2 hs3 o0 o1 o20 o21 o30 o31 o32 c2_0 c2_1 c2_2 c2_3 c2_4 l2_0 l2_1 c3_0 c3_1 c3_2 c3_3 c3_4 l3_0 l3_1 m3_0 m3_1 hf1 hf2 hf3
    have hT1 := hide (fun (w' : World) (h : KT w (w.heap.size + 1) g (.slice A 1 1) (.int .i64 lost) (.slice A3 0 0) (.int .i64 lost) A3 0 0 A 0 0 ms w') => h.2.2.2.2.1.out)
    have hT2 := hide (fun (w' : World) (h : KT w (w.heap.size + 1) g (.slice A 1 1) (.int .i64 lost) (.slice A3 0 0) (.int .i64 lost) A3 0 0 A 0 0 ms w') => h.2.2.2.2.2.1.out)
    have hT3 := hide (fun (w' : World) (h : KT w (w.heap.size + 1) g (.slice A 1 1) (.int .i64 lost) (.slice A3 0 0) (.int .i64 lost) A3 0 0 A 0 0 ms w') => h.2.2.2.2.2.2.1.out)
    go_region_held3 (fun w' => w'.cell? ⟨w.heap.size + 1, 0, none⟩ = some (.slice A 1 1) ∧ w'.cell? ⟨w.heap.size + 1, 1, none⟩ = some (.int .i64 lost) ∧ w'.cell? ⟨g, 0, none⟩ = some (.slice A3 0 0) ∧ w'.cell? ⟨g, 1, none⟩ = some (.int .i64 lost) ∧ Hid (Rd w' A3 0 0 ms) ∧ Hid (Rd w' A 0 0 ms) ∧ Hid (Below w.heap.size w w') ∧ Hid (w.heap.size ≤ w'.heap.size))
      (first | exact hS | exact KT.keep (by assumption) (by assumption))
      (first
        | (go_at_call 18; refine (same_any A3 A 0 0 0 0 lost lost ms ms _ (by exact hT1.out _ (by assumption)) (by exact hT2.out _ (by assumption)) true (by simp)).mono ?_; rintro e wx ⟨rfl, hb⟩))
    all_goals go_wp2
    all_goals go_ret
    all_goals exact ⟨rfl, hT3.out _ (by assumption)⟩


end Go.Proofs.Ytepnfhjfjjdpkaa.Port
