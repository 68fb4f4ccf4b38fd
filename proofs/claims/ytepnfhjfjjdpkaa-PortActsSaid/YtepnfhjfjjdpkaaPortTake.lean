/-
  The walks of port.Peek, Take and Waits. Conditions: none.
-/
import Derived.Test.YtepnfhjfjjdpkaaPortRd
import Derived.ChangeAlike
namespace Go.Proofs.Ytepnfhjfjjdpkaa.Port
open Go.RowKit

set_option maxHeartbeats 400000 in
theorem waits_any (A : Option Addr) (n c : Nat) (lost : Int) (w : World) (hn : n ≤ maxLen) :
    Calls Try.prog 13 #[.agg #[.slice A n c, .int .i64 lost]] w fun e w' => e = .returned (.int .i64 n) ∧ Below w.heap.size w w' := by
  unfold maxLen at hn
  go_enter Try.func13, Try.ntmps13
  go_wp2
  go_ret
  exact ⟨rfl, below_new _ _⟩

set_option maxHeartbeats 400000 in
theorem peek_none (kind fr to size depth lost : Int) (A : Option Addr) (c : Nat) (w : World) :
    Calls Try.prog 17 #[.agg #[.int .i64 kind, .int .i64 fr, .int .i64 to, .int .i64 size, .int .i64 depth], .agg #[.slice A 0 c, .int .i64 lost]] w fun e w' =>
      e = .returned (.tuple #[.agg #[.int .u64 0, .string .empty], .bool false]) ∧ Below w.heap.size w w' := by
  go_enter Try.func17, Try.ntmps17
  go_wp2
  exact bodyPost_ret (v := .tuple #[.agg #[.int .u64 0, .string .empty], .bool false]) (by simp [results, Try.results17, go_sem]; rfl) rfl ⟨rfl, by repeat (first | exact Below.refl _ _ | refine Below.setCell ?_ (by simp <;> omega) _ | refine Below.alloc ?_ (by simp <;> omega) _)⟩

set_option maxHeartbeats 400000 in
theorem peek_one (kind fr to size depth lost : Int) (A : Option Addr) (n c : Nat) (m : Msg) (ms : List Msg) (w : World) (h : Rd w A n c (m :: ms)) :
    Calls Try.prog 17 #[.agg #[.int .i64 kind, .int .i64 fr, .int .i64 to, .int .i64 size, .int .i64 depth], .agg #[.slice A n c, .int .i64 lost]] w fun e w' =>
      e = .returned (.tuple #[.agg #[.int .u64 m.1, .string m.2], .bool true]) ∧ Below w.heap.size w w' := by
  have hn : 0 < n := by have := h.1; simp at this; omega
  have hnc : n ≤ c := h.2.1
  have hcm : c ≤ 9223372036854775807 := h.2.2.1
  obtain ⟨b, m', rfl, hlt, hm, c0, c1⟩ := h.at_ hn
  simp at hm
  subst hm
  have hn0 : ((n : Int) == 0) = false := by rw [beq_eq_false_iff_ne]; omega
  have hn1 : (0 : Int) < n := by omega
  have k0 : ∀ o1 o2 o3, (((w.alloc o1).alloc o2).alloc o3).cell? b = some (.int .u64 m.1) := cell3 c0
  have k1 : ∀ o1 o2 o3, (((w.alloc o1).alloc o2).alloc o3).cell? ⟨b.block, b.off + 1, none⟩ = some (.string m.2) := cell3 c1
  clear h c0 c1
  go_enter Try.func17, Try.ntmps17
  go_wp2
  exact bodyPost_ret (v := .tuple #[.agg #[.int .u64 m.1, .string m.2], .bool true]) (by simp [results, Try.results17, go_sem]) rfl ⟨rfl, by repeat (first | exact Below.refl _ _ | refine Below.setCell ?_ (by simp <;> omega) _ | refine Below.alloc ?_ (by simp <;> omega) _)⟩

set_option maxHeartbeats 800000 in
theorem take_none (kind fr to size depth lost : Int) (A : Option Addr) (c : Nat) (w : World) :
    Calls Try.prog 12 #[.agg #[.int .i64 kind, .int .i64 fr, .int .i64 to, .int .i64 size, .int .i64 depth], .agg #[.slice A 0 c, .int .i64 lost]] w fun e w' =>
      e = .returned (.tuple #[.agg #[.slice A 0 c, .int .i64 lost], .agg #[.int .u64 0, .string .empty], .int .i64 7]) ∧ Below w.heap.size w w' := by
  go_enter Try.func12, Try.ntmps12
  go_wp2_with fail
  refine (peek_none _ _ _ _ _ _ _ _ _).mono ?_
  rintro e w1 ⟨rfl, hb⟩
  have hB := hide (((((below_new w _).alloc (by simp) _).alloc (by simp <;> omega) _).alloc (by simp <;> omega) _).trans (hb.mono (by simp <;> omega)))
  have hs := hb.size
  simp only [World.size_alloc] at hs
  have s0 : w.heap.size < w1.heap.size := by omega
  have s1 : w.heap.size + 1 < w1.heap.size := by omega
  have s2 : w.heap.size + 1 + 1 < w1.heap.size := by omega
  have s3 : w.heap.size + 1 + 1 + 1 < w1.heap.size := by omega
  obtain ⟨hc, hf⟩ := bcell hb
  have y0 : w1.cell? ⟨w.heap.size + 1, 0, none⟩ = some (.slice A 0 c) := (hc _ _ (by simp <;> omega)).trans (by simp [go_sem])
  have y1 : w1.cell? ⟨w.heap.size + 1, 1, none⟩ = some (.int .i64 lost) := (hc _ _ (by simp <;> omega)).trans (by simp [go_sem])
  have z0 : w1.cell? ⟨w.heap.size + 1 + 1, 0, none⟩ = some (.slice none 0 0) := (hc _ _ (by simp <;> omega)).trans (by simp [go_sem])
  have z1 : w1.cell? ⟨w.heap.size + 1 + 1, 1, none⟩ = some (.int .i64 0) := (hc _ _ (by simp <;> omega)).trans (by simp [go_sem])
  have x0 : w1.cell? ⟨w.heap.size + 1 + 1 + 1, 0, none⟩ = some (.int .u64 0) := (hc _ _ (by simp <;> omega)).trans (by simp [go_sem])
  have x1 : w1.cell? ⟨w.heap.size + 1 + 1 + 1, 1, none⟩ = some (.string .empty) := (hc _ _ (by simp <;> omega)).trans (by simp [go_sem]; rfl)
  go_wp2
  go_region
  go_wp2
  exact bodyPost_ret (v := .tuple #[.agg #[.slice A 0 c, .int .i64 lost], .agg #[.int .u64 0, .string .empty], .int .i64 7]) (by simp [results, Try.results12, go_sem, z0, z1, x0, x1, s2, s3]) rfl ⟨rfl, by repeat (first | (with_reducible refine Below.drew ?_) | (with_reducible refine Below.setCell ?_ (by simp <;> omega) _) | (with_reducible refine Below.alloc ?_ (by simp <;> omega) _) | (with_reducible exact hB.out))⟩

set_option maxHeartbeats 800000 in
theorem take_sample (fr to size depth lost : Int) (A : Option Addr) (n c : Nat) (m : Msg) (ms : List Msg) (w : World) (h : Rd w A n c (m :: ms)) :
    Calls Try.prog 12 #[.agg #[.int .i64 1, .int .i64 fr, .int .i64 to, .int .i64 size, .int .i64 depth], .agg #[.slice A n c, .int .i64 lost]] w fun e w' =>
      e = .returned (.tuple #[.agg #[.slice A n c, .int .i64 lost], .agg #[.int .u64 m.1, .string m.2], .int .i64 0]) ∧ Below w.heap.size w w' := by
  have hR := hide h
  clear h
  go_enter Try.func12, Try.ntmps12
  go_wp2_with fail
  refine (peek_one _ _ _ _ _ _ _ _ _ m ms _ (((((hR.out.alloc _).alloc _).alloc _).alloc _))).mono ?_
  rintro e w1 ⟨rfl, hb⟩
  have hB := hide (((((below_new w _).alloc (by simp) _).alloc (by simp <;> omega) _).alloc (by simp <;> omega) _).trans (hb.mono (by simp <;> omega)))
  have hs := hb.size
  simp only [World.size_alloc] at hs
  have s0 : w.heap.size < w1.heap.size := by omega
  have s1 : w.heap.size + 1 < w1.heap.size := by omega
  have s2 : w.heap.size + 1 + 1 < w1.heap.size := by omega
  have s3 : w.heap.size + 1 + 1 + 1 < w1.heap.size := by omega
  obtain ⟨hc, hf⟩ := bcell hb
  have y0 : w1.cell? ⟨w.heap.size + 1, 0, none⟩ = some (.slice A n c) := (hc _ _ (by simp <;> omega)).trans (by simp [go_sem])
  have y1 : w1.cell? ⟨w.heap.size + 1, 1, none⟩ = some (.int .i64 lost) := (hc _ _ (by simp <;> omega)).trans (by simp [go_sem])
  have z0 : w1.cell? ⟨w.heap.size + 1 + 1, 0, none⟩ = some (.slice none 0 0) := (hc _ _ (by simp <;> omega)).trans (by simp [go_sem])
  have z1 : w1.cell? ⟨w.heap.size + 1 + 1, 1, none⟩ = some (.int .i64 0) := (hc _ _ (by simp <;> omega)).trans (by simp [go_sem])
  have x0 : w1.cell? ⟨w.heap.size + 1 + 1 + 1, 0, none⟩ = some (.int .u64 0) := (hc _ _ (by simp <;> omega)).trans (by simp [go_sem])
  have x1 : w1.cell? ⟨w.heap.size + 1 + 1 + 1, 1, none⟩ = some (.string .empty) := (hc _ _ (by simp <;> omega)).trans (by simp [go_sem]; rfl)
  go_wp2
  go_region
  go_wp2
  exact bodyPost_ret (v := .tuple #[.agg #[.slice A n c, .int .i64 lost], .agg #[.int .u64 m.1, .string m.2], .int .i64 0]) (by simp [results, Try.results12, go_sem, z0, z1, x0, x1, s2, s3]) rfl ⟨rfl, by repeat (first | (with_reducible refine Below.drew ?_) | (with_reducible refine Below.setCell ?_ (by simp <;> omega) _) | (with_reducible refine Below.alloc ?_ (by simp <;> omega) _) | (with_reducible exact hB.out))⟩

set_option maxHeartbeats 800000 in
theorem take_queue (kind fr to size depth lost : Int) (A : Option Addr) (n c : Nat) (m : Msg) (ms : List Msg) (w : World) (h : Rd w A n c (m :: ms)) (hk : (kind == 1) = false) :
    Calls Try.prog 12 #[.agg #[.int .i64 kind, .int .i64 fr, .int .i64 to, .int .i64 size, .int .i64 depth], .agg #[.slice A n c, .int .i64 lost]] w fun e w' =>
      ∃ A', e = .returned (.tuple #[.agg #[.slice A' (n - 1) (n - 1), .int .i64 lost], .agg #[.int .u64 m.1, .string m.2], .int .i64 0]) ∧ Rd w' A' (n - 1) (n - 1) ms ∧ Below w.heap.size w w' := by
  have hn : 0 < n := by have := h.1; simp at this; omega
  have hnc : n ≤ c := h.2.1
  have hcm : c ≤ 9223372036854775807 := h.2.2.1
  have hn1 : (1 : Int) ≤ n := by omega
  have hR := hide h
  clear h
  go_enter Try.func12, Try.ntmps12
  go_wp2_with fail
  refine (peek_one _ _ _ _ _ _ _ _ _ m ms _ (((((hR.out.alloc _).alloc _).alloc _).alloc _))).mono ?_
  rintro e w1 ⟨rfl, hb⟩
  have hB := hide (((((below_new w _).alloc (by simp) _).alloc (by simp <;> omega) _).alloc (by simp <;> omega) _).trans (hb.mono (by simp <;> omega)))
  have hs := hb.size
  simp only [World.size_alloc] at hs
  have s0 : w.heap.size < w1.heap.size := by omega
  have s1 : w.heap.size + 1 < w1.heap.size := by omega
  have s2 : w.heap.size + 1 + 1 < w1.heap.size := by omega
  have s3 : w.heap.size + 1 + 1 + 1 < w1.heap.size := by omega
  obtain ⟨hc, hf⟩ := bcell hb
  have y0 : w1.cell? ⟨w.heap.size + 1, 0, none⟩ = some (.slice A n c) := (hc _ _ (by simp <;> omega)).trans (by simp [go_sem])
  have y1 : w1.cell? ⟨w.heap.size + 1, 1, none⟩ = some (.int .i64 lost) := (hc _ _ (by simp <;> omega)).trans (by simp [go_sem])
  have z0 : w1.cell? ⟨w.heap.size + 1 + 1, 0, none⟩ = some (.slice none 0 0) := (hc _ _ (by simp <;> omega)).trans (by simp [go_sem])
  have z1 : w1.cell? ⟨w.heap.size + 1 + 1, 1, none⟩ = some (.int .i64 0) := (hc _ _ (by simp <;> omega)).trans (by simp [go_sem])
  have x0 : w1.cell? ⟨w.heap.size + 1 + 1 + 1, 0, none⟩ = some (.int .u64 0) := (hc _ _ (by simp <;> omega)).trans (by simp [go_sem])
  have x1 : w1.cell? ⟨w.heap.size + 1 + 1 + 1, 1, none⟩ = some (.string .empty) := (hc _ _ (by simp <;> omega)).trans (by simp [go_sem]; rfl)
  go_wp2
  · obtain rfl : n = 1 := by omega
    have hT := hide (show Rd w A 0 0 ms from by
      have h := hR.out
      obtain ⟨h1, h2, h3, h4, h5⟩ := h
      have e : ms = [] := List.eq_nil_of_length_eq_zero (by simpa using h1)
      subst e
      exact ⟨rfl, Nat.le_refl _, by simp [maxLen], (fun _ => rfl), fun b hb => ⟨(fun h => by omega), (fun j u hu => by simp [cellsM] at hu)⟩⟩)
    go_region
    go_wp2
    refine bodyPost_ret (v := .tuple #[.agg #[.slice A 0 0, .int .i64 lost], .agg #[.int .u64 m.1, .string m.2], .int .i64 0]) (by simp [results, Try.results12, go_sem, y0, y1, z0, z1, x0, x1, s1, s2, s3]) rfl ?_
    exact ⟨A, rfl, rd_fin hT (by repeat (first | (with_reducible refine Below.drew ?_) | (with_reducible refine Below.setCell ?_ (by simp <;> omega) _) | (with_reducible refine Below.alloc ?_ (by simp <;> omega) _) | (with_reducible exact hB.out)))⟩
  · have hT := hide (hR.out.tail (by omega))
    go_region
    go_wp2
    refine bodyPost_ret (v := .tuple #[.agg #[.slice (A.map fun x => ⟨x.block, x.off + 2, none⟩) (n - 1) (n - 1), .int .i64 lost], .agg #[.int .u64 m.1, .string m.2], .int .i64 0]) (by simp [results, Try.results12, go_sem, y0, y1, z0, z1, x0, x1, s1, s2, s3]) rfl ?_
    exact ⟨_, rfl, rd_fin hT (by repeat (first | (with_reducible refine Below.drew ?_) | (with_reducible refine Below.setCell ?_ (by simp <;> omega) _) | (with_reducible refine Below.alloc ?_ (by simp <;> omega) _) | (with_reducible exact hB.out)))⟩

end Go.Proofs.Ytepnfhjfjjdpkaa.Port
