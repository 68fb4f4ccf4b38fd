/-
  The walks of the reference's Take and Same. Conditions: the list has room for itself (24 bytes a message).
-/
import Derived.Test.YtepnfhjfjjdpkaaPortRefSend
import Derived.Test.YtepnfhjfjjdpkaaPortTakes
namespace Go.Proofs.Ytepnfhjfjjdpkaa.Port
open Go.RowKit

set_option maxHeartbeats 400000 in
theorem rtake_none (kind fr to size depth lost : Int) (A : Option Addr) (c : Nat) (w : World) :
    Calls Try.prog 15 #[.agg #[.int .i64 kind, .int .i64 fr, .int .i64 to, .int .i64 size, .int .i64 depth], .agg #[.slice A 0 c, .int .i64 lost]] w fun e w' =>
      e = .returned (.tuple #[.agg #[.slice A 0 c, .int .i64 lost], .agg #[.int .u64 0, .string .empty], .int .i64 7]) ∧ Below w.heap.size w w' := by
  go_enter Try.func15, Try.ntmps15
  go_wp2
  exact bodyPost_ret (v := .tuple #[.agg #[.slice A 0 c, .int .i64 lost], .agg #[.int .u64 0, .string .empty], .int .i64 7]) (by simp [results, Try.results15, go_sem]; rfl) rfl ⟨rfl, by repeat (first | (with_reducible exact Below.refl _ _) | (with_reducible refine Below.setCell ?_ (by simp <;> omega) _) | (with_reducible refine Below.alloc ?_ (by simp <;> omega) _))⟩

/-- what the statement that takes reads, and what its steps keep -/
def RT (w0 : World) (A : Option Addr) (n c : Nat) (lost : Int) (w : World) : Prop :=
  w.cell? ⟨w0.heap.size + 1, 0, none⟩ = some (.slice A n c) ∧ w.cell? ⟨w0.heap.size + 1, 1, none⟩ = some (.int .i64 lost) ∧ Hid (Below w0.heap.size w0 w) ∧ w0.heap.size + 1 + 1 + 1 + 1 ≤ w.heap.size
theorem RT.alloc {w0 : World} {A : Option Addr} {n c : Nat} {lost : Int} {w : World} (h : RT w0 A n c lost w) (o : Obj) : RT w0 A n c lost (w.alloc o) := by
  obtain ⟨h1, h2, hB, hs⟩ := h
  exact ⟨cell_up h1 o, cell_up h2 o, hB.out.alloc (by omega) o, by simp; omega⟩
theorem RT.app {w0 : World} {A : Option Addr} {n c : Nat} {lost : Int} {w w' : World} {v v' : Value} {k m : Nat} {xs news : List Value} (h : RT w0 A n c lost w)
    (hA : Appended (w0.heap.size + 1 + 1 + 1 + 1) 39 2 w v k m xs news v' w') (hown : w.ownsRow (w0.heap.size + 1 + 1 + 1 + 1) 39 2 v k xs) : RT w0 A n c lost w' := by
  obtain ⟨h1, h2, hB, hs⟩ := h
  have ne : ∀ g, g < w0.heap.size + 1 + 1 + 1 + 1 → v.ownBlock ≠ some g := fun g hg e => by have := (hown.lt g e).1; omega
  exact ⟨hA.cell h1 (ne _ (by simp <;> omega)), hA.cell h2 (ne _ (by simp <;> omega)), hA.below hown hB.out (by omega) (by omega), Nat.le_trans hs hA.hsize⟩
theorem RT.store {w0 : World} {A : Option Addr} {n c : Nat} {lost : Int} {w : World} (h : RT w0 A n c lost w) (k j : Nat) (hk : w0.heap.size + 1 < k) (u : Value) : RT w0 A n c lost (w.setCell ⟨k, j, none⟩ u) := by
  obtain ⟨h1, h2, hB, hs⟩ := h
  exact ⟨(World.cell?_setCell_other _ _ _ _ (by simp <;> omega)).trans h1, (World.cell?_setCell_other _ _ _ _ (by simp <;> omega)).trans h2, hB.out.setCell (by show w0.heap.size ≤ k; omega) _, by rw [World.size_setCell]; exact hs⟩

set_option maxHeartbeats 400000 in
theorem rtake_sample (fr to size depth lost : Int) (A : Option Addr) (n c : Nat) (m : Msg) (ms : List Msg) (w : World) (h : Rd w A n c (m :: ms)) :
    Calls Try.prog 15 #[.agg #[.int .i64 1, .int .i64 fr, .int .i64 to, .int .i64 size, .int .i64 depth], .agg #[.slice A n c, .int .i64 lost]] w fun e w' =>
      e = .returned (.tuple #[.agg #[.slice A n c, .int .i64 lost], .agg #[.int .u64 m.1, .string m.2], .int .i64 0]) ∧ Below w.heap.size w w' := by
  have hn : 0 < n := by have := h.1; simp at this; omega
  have hnc : n ≤ c := h.2.1
  have hcm : c ≤ 9223372036854775807 := h.2.2.1
  obtain ⟨b, m', rfl, hlt, hm, c0, c1⟩ := h.at_ hn
  simp at hm
  subst hm
  have hn0 : ((n : Int) == 0) = false := by rw [beq_eq_false_iff_ne]; omega
  have hn1 : (0 : Int) < n := by omega
  have hS0 : w.heap.size < ((((w.alloc (.cells #[.int .i64 1, .int .i64 fr, .int .i64 to, .int .i64 size, .int .i64 depth] 23)).alloc (.cells #[.slice (some b) n c, .int .i64 lost] 26)).alloc (.cells #[.slice none 0 0, .int .i64 0] 26)).alloc (.cells #[.int .u64 0, .string ⟨#[]⟩] 39)).heap.size := by simp <;> omega
  clear h
  go_enter Try.func15, Try.ntmps15
  go_wp2_with fail
  have hRT : RT w (some b) n c lost ((((w.alloc (.cells #[.int .i64 1, .int .i64 fr, .int .i64 to, .int .i64 size, .int .i64 depth] 23)).alloc (.cells #[.slice (some b) n c, .int .i64 lost] 26)).alloc (.cells #[.slice none 0 0, .int .i64 0] 26)).alloc (.cells #[.int .u64 0, .string ⟨#[]⟩] 39)).drew := by
    refine ⟨?_, ?_, (((((Below.refl _ _).alloc (Nat.le_refl _) _).alloc (by simp) _).alloc (by simp <;> omega) _).alloc (by simp <;> omega) _).drew, by show _ ≤ ((((w.alloc (.cells #[.int .i64 1, .int .i64 fr, .int .i64 to, .int .i64 size, .int .i64 depth] 23)).alloc (.cells #[.slice (some b) n c, .int .i64 lost] 26)).alloc (.cells #[.slice none 0 0, .int .i64 0] 26)).alloc (.cells #[.int .u64 0, .string ⟨#[]⟩] 39)).heap.size; simp⟩
    all_goals go_simp
  have z0 : ((((w.alloc (.cells #[.int .i64 1, .int .i64 fr, .int .i64 to, .int .i64 size, .int .i64 depth] 23)).alloc (.cells #[.slice (some b) n c, .int .i64 lost] 26)).alloc (.cells #[.slice none 0 0, .int .i64 0] 26)).alloc (.cells #[.int .u64 0, .string ⟨#[]⟩] 39)).cell? ⟨w.heap.size + 1 + 1, 0, none⟩ = some (.slice none 0 0) := by go_simp
  have z1 : ((((w.alloc (.cells #[.int .i64 1, .int .i64 fr, .int .i64 to, .int .i64 size, .int .i64 depth] 23)).alloc (.cells #[.slice (some b) n c, .int .i64 lost] 26)).alloc (.cells #[.slice none 0 0, .int .i64 0] 26)).alloc (.cells #[.int .u64 0, .string ⟨#[]⟩] 39)).cell? ⟨w.heap.size + 1 + 1, 1, none⟩ = some (.int .i64 0) := by go_simp
  have z2 : ((((w.alloc (.cells #[.int .i64 1, .int .i64 fr, .int .i64 to, .int .i64 size, .int .i64 depth] 23)).alloc (.cells #[.slice (some b) n c, .int .i64 lost] 26)).alloc (.cells #[.slice none 0 0, .int .i64 0] 26)).alloc (.cells #[.int .u64 0, .string ⟨#[]⟩] 39)).cell? ⟨w.heap.size + 1 + 1 + 1, 0, none⟩ = some (.int .u64 0) := by go_simp
  have z3 : ((((w.alloc (.cells #[.int .i64 1, .int .i64 fr, .int .i64 to, .int .i64 size, .int .i64 depth] 23)).alloc (.cells #[.slice (some b) n c, .int .i64 lost] 26)).alloc (.cells #[.slice none 0 0, .int .i64 0] 26)).alloc (.cells #[.int .u64 0, .string ⟨#[]⟩] 39)).cell? ⟨w.heap.size + 1 + 1 + 1, 1, none⟩ = some (.string ⟨#[]⟩) := by go_simp
  have f0 : ∀ j, ((((w.alloc (.cells #[.int .i64 1, .int .i64 fr, .int .i64 to, .int .i64 size, .int .i64 depth] 23)).alloc (.cells #[.slice (some b) n c, .int .i64 lost] 26)).alloc (.cells #[.slice none 0 0, .int .i64 0] 26)).alloc (.cells #[.int .u64 0, .string ⟨#[]⟩] 39)).frozen? ⟨w.heap.size + 1 + 1, j, none⟩ = false := fun j => by go_simp
  have f1 : ∀ j, ((((w.alloc (.cells #[.int .i64 1, .int .i64 fr, .int .i64 to, .int .i64 size, .int .i64 depth] 23)).alloc (.cells #[.slice (some b) n c, .int .i64 lost] 26)).alloc (.cells #[.slice none 0 0, .int .i64 0] 26)).alloc (.cells #[.int .u64 0, .string ⟨#[]⟩] 39)).frozen? ⟨w.heap.size + 1 + 1 + 1, j, none⟩ = false := fun j => by go_simp
  have y2 : w.heap.size + 1 + 1 < ((((w.alloc (.cells #[.int .i64 1, .int .i64 fr, .int .i64 to, .int .i64 size, .int .i64 depth] 23)).alloc (.cells #[.slice (some b) n c, .int .i64 lost] 26)).alloc (.cells #[.slice none 0 0, .int .i64 0] 26)).alloc (.cells #[.int .u64 0, .string ⟨#[]⟩] 39)).heap.size := by simp <;> omega
  have y3 : w.heap.size + 1 + 1 + 1 < ((((w.alloc (.cells #[.int .i64 1, .int .i64 fr, .int .i64 to, .int .i64 size, .int .i64 depth] 23)).alloc (.cells #[.slice (some b) n c, .int .i64 lost] 26)).alloc (.cells #[.slice none 0 0, .int .i64 0] 26)).alloc (.cells #[.int .u64 0, .string ⟨#[]⟩] 39)).heap.size := by simp <;> omega
  generalize ((((w.alloc (.cells #[.int .i64 1, .int .i64 fr, .int .i64 to, .int .i64 size, .int .i64 depth] 23)).alloc (.cells #[.slice (some b) n c, .int .i64 lost] 26)).alloc (.cells #[.slice none 0 0, .int .i64 0] 26)).alloc (.cells #[.int .u64 0, .string ⟨#[]⟩] 39)) = X at hRT z0 z1 z2 z3 f0 f1 y2 y3 hS0 ⊢
  refine wp_region_noPanic ?_
  refine wp_region_held_drew (S := RT w (some b) n c lost) (by kernel_rfl) (hRT) (fun hHeld => ?_)
  refine wpAnyHN_take (i := 0) (oi := _) (some 16) (v := ?v12) rfl rfl (by kernel_rfl) (by kernel_rfl) (by kernel_rfl) (Or.inl ⟨by rfl, ?hy12⟩) hHeld ?rest12
  case hy12 =>
    intro w' hSw
    obtain ⟨k1, k2, -, -⟩ := id hSw
    go_simp
    try (with_reducible rfl)
  try simp only [Act.put, List.setIfInBounds_toArray, List.set_cons_zero, List.set_cons_succ]
  refine wpAnyHN_take (i := 1) (oi := _) (some 17) (v := ?v13) rfl rfl (by kernel_rfl) (by kernel_rfl) (by kernel_rfl) (Or.inl ⟨by rfl, ?hy13⟩) hHeld ?rest13
  case hy13 =>
    intro w' hSw
    clear hSw
    go_simp
    try (with_reducible rfl)
  try simp only [Act.put, List.setIfInBounds_toArray, List.set_cons_zero, List.set_cons_succ]
  refine wpAnyHN_take (i := 2) (oi := _) (some 18) (v := ?v14) rfl rfl (by kernel_rfl) (by kernel_rfl) (by kernel_rfl) (Or.inl ⟨by rfl, ?hy14⟩) hHeld ?rest14
  case hy14 =>
    intro w' hSw
    obtain ⟨k1, k2, -, -⟩ := id hSw
    go_simp
    try (with_reducible rfl)
  try simp only [Act.put, List.setIfInBounds_toArray, List.set_cons_zero, List.set_cons_succ]
  refine wpAnyHN_take (i := 3) (oi := _) (some 19) (v := ?v15) rfl rfl (by kernel_rfl) (by kernel_rfl) (by kernel_rfl) (Or.inl ⟨by rfl, ?hy15⟩) hHeld ?rest15
  case hy15 =>
    intro w' hSw
    clear hSw
    go_simp
    try (with_reducible rfl)
  try simp only [Act.put, List.setIfInBounds_toArray, List.set_cons_zero, List.set_cons_succ]
  refine wpAnyHN_take (i := 4) (oi := _) (some 20) (v := ?v16) rfl rfl (by kernel_rfl) (by kernel_rfl) (by kernel_rfl) (Or.inl ⟨by rfl, ?hy16⟩) hHeld ?rest16
  case hy16 =>
    intro w' hSw
    have k3 := (hSw.2.2.1.out.cell hlt).trans c0
    have k4 := (hSw.2.2.1.out.cell (p := ⟨b.block, b.off + 1, none⟩) hlt).trans c1
    go_simp
    try (with_reducible rfl)
  try simp only [Act.put, List.setIfInBounds_toArray, List.set_cons_zero, List.set_cons_succ]
  refine wpAnyH_ready (rs := [5]) (by kernel_rfl) (by simp) ?_
  refine AllReadyH.cons (o := _) rfl (fun K' hK' => ?_) AllReadyH.nil
  go_simp
  refine hK'.out _ _ ?_ (fun hHeld => ?_)
  · first | exact ((hHeld.store _ 0 (by omega) _).store _ 1 (by omega) _) | exact hHeld
  clear hK' K'
  try simp only [Act.put, List.setIfInBounds_toArray, List.set_cons_zero, List.set_cons_succ]
  refine wpAnyH_ready (rs := [6]) (by kernel_rfl) (by simp) ?_
  refine AllReadyH.cons (o := _) rfl (fun K' hK' => ?_) AllReadyH.nil
  go_simp
  refine hK'.out _ _ ?_ (fun hHeld => ?_)
  · first | exact ((hHeld.store _ 0 (by omega) _).store _ 1 (by omega) _) | exact hHeld
  clear hK' K'
  try simp only [Act.put, List.setIfInBounds_toArray, List.set_cons_zero, List.set_cons_succ]
  refine wpAnyHN_take (i := 7) (oi := _) (some 6) (v := ?v17) rfl rfl (by kernel_rfl) (by kernel_rfl) (by kernel_rfl) (Or.inl ⟨by rfl, ?hy17⟩) hHeld ?rest17
  case hy17 =>
    intro w' hSw
    clear hSw
    go_simp
    try (with_reducible rfl)
  try simp only [Act.put, List.setIfInBounds_toArray, List.set_cons_zero, List.set_cons_succ]
  refine wpAnyH_done (by kernel_rfl) ?_ _
  refine NoPanic.normal ?_
  have hBe := hHeld.2.2.1
  clear hHeld hRT c0 c1
  go_wp2
  exact bodyPost_ret (v := .tuple #[.agg #[.slice (some b) n c, .int .i64 lost], .agg #[.int .u64 m.1, .string m.2], .int .i64 0]) (by simp [results, Try.results15, go_sem, z0, z1, z2, z3, y2, y3]) rfl ⟨rfl, hBe.out⟩

set_option maxHeartbeats 1000000 in
theorem rtake_queue (kind fr to size depth lost : Int) (A : Option Addr) (n c : Nat) (m : Msg) (ms : List Msg) (w : World) (h : Rd w A n c (m :: ms)) (hroom : n * 24 ≤ 140737488355328) (hk : (kind == 1) = false) (hc1 : c ≠ 1) :
    Calls Try.prog 15 #[.agg #[.int .i64 kind, .int .i64 fr, .int .i64 to, .int .i64 size, .int .i64 depth], .agg #[.slice A n c, .int .i64 lost]] w fun e w' =>
      ∃ A' c', e = .returned (.tuple #[.agg #[.slice A' (n - 1) c', .int .i64 lost], .agg #[.int .u64 m.1, .string m.2], .int .i64 0]) ∧ Rd w' A' (n - 1) c' ms ∧ Below w.heap.size w w' := by
  have hn : 0 < n := by have := h.1; simp at this; omega
  have hnc : n ≤ c := h.2.1
  have hcm : c ≤ 9223372036854775807 := h.2.2.1
  have hT := hide (h.tailc hc1)
  obtain ⟨i0, hi, hz0, hz1, hz2⟩ := info_parts infoMsg
  obtain ⟨b, m', rfl, hlt, hm, c0, c1⟩ := h.at_ hn
  simp at hm
  subst hm
  have hn0 : ((n : Int) == 0) = false := by rw [beq_eq_false_iff_ne]; omega
  have hn1 : (0 : Int) < n := by omega
  have hn2 : (1 : Int) ≤ n := by omega
  clear h
  go_enter Try.func15, Try.ntmps15
  go_wp2_with fail
  have hRT : RT w (some b) n c lost ((((w.alloc (.cells #[.int .i64 kind, .int .i64 fr, .int .i64 to, .int .i64 size, .int .i64 depth] 23)).alloc (.cells #[.slice (some b) n c, .int .i64 lost] 26)).alloc (.cells #[.slice none 0 0, .int .i64 0] 26)).alloc (.cells #[.int .u64 0, .string ⟨#[]⟩] 39)).drew := by
    refine ⟨?_, ?_, (((((Below.refl _ _).alloc (Nat.le_refl _) _).alloc (by simp) _).alloc (by simp <;> omega) _).alloc (by simp <;> omega) _).drew, by show _ ≤ ((((w.alloc (.cells #[.int .i64 kind, .int .i64 fr, .int .i64 to, .int .i64 size, .int .i64 depth] 23)).alloc (.cells #[.slice (some b) n c, .int .i64 lost] 26)).alloc (.cells #[.slice none 0 0, .int .i64 0] 26)).alloc (.cells #[.int .u64 0, .string ⟨#[]⟩] 39)).heap.size; simp <;> omega⟩
    all_goals go_simp
  have z0 : ((((w.alloc (.cells #[.int .i64 kind, .int .i64 fr, .int .i64 to, .int .i64 size, .int .i64 depth] 23)).alloc (.cells #[.slice (some b) n c, .int .i64 lost] 26)).alloc (.cells #[.slice none 0 0, .int .i64 0] 26)).alloc (.cells #[.int .u64 0, .string ⟨#[]⟩] 39)).cell? ⟨w.heap.size + 1 + 1, 0, none⟩ = some (.slice none 0 0) := by go_simp
  have z1 : ((((w.alloc (.cells #[.int .i64 kind, .int .i64 fr, .int .i64 to, .int .i64 size, .int .i64 depth] 23)).alloc (.cells #[.slice (some b) n c, .int .i64 lost] 26)).alloc (.cells #[.slice none 0 0, .int .i64 0] 26)).alloc (.cells #[.int .u64 0, .string ⟨#[]⟩] 39)).cell? ⟨w.heap.size + 1 + 1, 1, none⟩ = some (.int .i64 0) := by go_simp
  have z2 : ((((w.alloc (.cells #[.int .i64 kind, .int .i64 fr, .int .i64 to, .int .i64 size, .int .i64 depth] 23)).alloc (.cells #[.slice (some b) n c, .int .i64 lost] 26)).alloc (.cells #[.slice none 0 0, .int .i64 0] 26)).alloc (.cells #[.int .u64 0, .string ⟨#[]⟩] 39)).cell? ⟨w.heap.size + 1 + 1 + 1, 0, none⟩ = some (.int .u64 0) := by go_simp
  have z3 : ((((w.alloc (.cells #[.int .i64 kind, .int .i64 fr, .int .i64 to, .int .i64 size, .int .i64 depth] 23)).alloc (.cells #[.slice (some b) n c, .int .i64 lost] 26)).alloc (.cells #[.slice none 0 0, .int .i64 0] 26)).alloc (.cells #[.int .u64 0, .string ⟨#[]⟩] 39)).cell? ⟨w.heap.size + 1 + 1 + 1, 1, none⟩ = some (.string ⟨#[]⟩) := by go_simp
  have f0 : ∀ j, ((((w.alloc (.cells #[.int .i64 kind, .int .i64 fr, .int .i64 to, .int .i64 size, .int .i64 depth] 23)).alloc (.cells #[.slice (some b) n c, .int .i64 lost] 26)).alloc (.cells #[.slice none 0 0, .int .i64 0] 26)).alloc (.cells #[.int .u64 0, .string ⟨#[]⟩] 39)).frozen? ⟨w.heap.size + 1 + 1, j, none⟩ = false := fun j => by go_simp
  have f1 : ∀ j, ((((w.alloc (.cells #[.int .i64 kind, .int .i64 fr, .int .i64 to, .int .i64 size, .int .i64 depth] 23)).alloc (.cells #[.slice (some b) n c, .int .i64 lost] 26)).alloc (.cells #[.slice none 0 0, .int .i64 0] 26)).alloc (.cells #[.int .u64 0, .string ⟨#[]⟩] 39)).frozen? ⟨w.heap.size + 1 + 1 + 1, j, none⟩ = false := fun j => by go_simp
  have hX : w.heap.size + 1 + 1 + 1 + 1 ≤ ((((w.alloc (.cells #[.int .i64 kind, .int .i64 fr, .int .i64 to, .int .i64 size, .int .i64 depth] 23)).alloc (.cells #[.slice (some b) n c, .int .i64 lost] 26)).alloc (.cells #[.slice none 0 0, .int .i64 0] 26)).alloc (.cells #[.int .u64 0, .string ⟨#[]⟩] 39)).heap.size := by simp
  generalize ((((w.alloc (.cells #[.int .i64 kind, .int .i64 fr, .int .i64 to, .int .i64 size, .int .i64 depth] 23)).alloc (.cells #[.slice (some b) n c, .int .i64 lost] 26)).alloc (.cells #[.slice none 0 0, .int .i64 0] 26)).alloc (.cells #[.int .u64 0, .string ⟨#[]⟩] 39)) = X at hRT z0 z1 z2 z3 f0 f1 hX ⊢
  refine wp_region_noPanic ?_
  refine wp_region_held_drew (S := RT w (some b) n c lost) (by kernel_rfl) (hRT) (fun hHeld => ?_)
  refine wpAnyHN_take (i := 1) (oi := _) (some 22) (v := ?v18) rfl rfl (by kernel_rfl) (by kernel_rfl) (by kernel_rfl) (Or.inl ⟨by rfl, ?hy18⟩) hHeld ?rest18
  case hy18 =>
    intro w' hSw
    clear hSw
    go_simp
    try (with_reducible rfl)
  try simp only [Act.put, List.setIfInBounds_toArray, List.set_cons_zero, List.set_cons_succ]
  refine wpAnyHN_take (i := 2) (oi := _) (some 23) (v := ?v19) rfl rfl (by kernel_rfl) (by kernel_rfl) (by kernel_rfl) (Or.inl ⟨by rfl, ?hy19⟩) hHeld ?rest19
  case hy19 =>
    intro w' hSw
    obtain ⟨k1, k2, -, -⟩ := id hSw
    go_simp
    try (with_reducible rfl)
  try simp only [Act.put, List.setIfInBounds_toArray, List.set_cons_zero, List.set_cons_succ]
  refine wpAnyHN_take (i := 3) (oi := _) (some 24) (v := ?v20) rfl rfl (by kernel_rfl) (by kernel_rfl) (by kernel_rfl) (Or.inl ⟨by rfl, ?hy20⟩) hHeld ?rest20
  case hy20 =>
    intro w' hSw
    clear hSw
    go_simp
    try (with_reducible rfl)
  try simp only [Act.put, List.setIfInBounds_toArray, List.set_cons_zero, List.set_cons_succ]
  refine wpAnyHN_take (i := 5) (oi := _) (some 26) (v := ?v21) rfl rfl (by kernel_rfl) (by kernel_rfl) (by kernel_rfl) (Or.inl ⟨by rfl, ?hy21⟩) hHeld ?rest21
  case hy21 =>
    intro w' hSw
    clear hSw
    go_simp
    try (with_reducible rfl)
  try simp only [Act.put, List.setIfInBounds_toArray, List.set_cons_zero, List.set_cons_succ]
  refine wpAnyHN_take (i := 6) (oi := _) (some 27) (v := ?v22) rfl rfl (by kernel_rfl) (by kernel_rfl) (by kernel_rfl) (Or.inl ⟨by rfl, ?hy22⟩) hHeld ?rest22
  case hy22 =>
    intro w' hSw
    obtain ⟨k1, k2, -, -⟩ := id hSw
    go_simp
    try (with_reducible rfl)
  try simp only [Act.put, List.setIfInBounds_toArray, List.set_cons_zero, List.set_cons_succ]
  refine wpAnyHN_take (i := 8) (oi := _) (some 29) (v := ?v23) rfl rfl (by kernel_rfl) (by kernel_rfl) (by kernel_rfl) (Or.inl ⟨by rfl, ?hy23⟩) hHeld ?rest23
  case hy23 =>
    intro w' hSw
    clear hSw
    go_simp
    try (with_reducible rfl)
  try simp only [Act.put, List.setIfInBounds_toArray, List.set_cons_zero, List.set_cons_succ]
  refine wpAnyHN_take (i := 9) (oi := _) (some 30) (v := ?v24) rfl rfl (by kernel_rfl) (by kernel_rfl) (by kernel_rfl) (Or.inl ⟨by rfl, ?hy24⟩) hHeld ?rest24
  case hy24 =>
    intro w' hSw
    obtain ⟨k1, k2, -, -⟩ := id hSw
    go_simp
    try (with_reducible rfl)
  try simp only [Act.put, List.setIfInBounds_toArray, List.set_cons_zero, List.set_cons_succ]
  refine wpAnyHN_take (i := 10) (oi := _) (some 31) (v := ?v25) rfl rfl (by kernel_rfl) (by kernel_rfl) (by kernel_rfl) (Or.inl ⟨by rfl, ?hy25⟩) hHeld ?rest25
  case hy25 =>
    intro w' hSw
    clear hSw
    go_simp
    try (with_reducible rfl)
  try simp only [Act.put, List.setIfInBounds_toArray, List.set_cons_zero, List.set_cons_succ]
  refine wpAnyHN_take (i := 11) (oi := _) (some 32) (v := ?v26) rfl rfl (by kernel_rfl) (by kernel_rfl) (by kernel_rfl) (Or.inl ⟨by rfl, ?hy26⟩) hHeld ?rest26
  case hy26 =>
    intro w' hSw
    have k3 := (hSw.2.2.1.out.cell hlt).trans c0
    have k4 := (hSw.2.2.1.out.cell (p := ⟨b.block, b.off + 1, none⟩) hlt).trans c1
    go_simp
    try (with_reducible rfl)
  try simp only [Act.put, List.setIfInBounds_toArray, List.set_cons_zero, List.set_cons_succ]
  refine wpAnyH_ready (rs := [0]) (by kernel_rfl) (by simp) ?_
  refine AllReadyH.cons (o := _) rfl (fun K' hK' => ?_) AllReadyH.nil
  go_simp
  refine hK'.out _ _ ?_ (fun hHeld => ?_)
  · exact hHeld.alloc _
  clear hK' K'
  try simp only [Act.put, List.setIfInBounds_toArray, List.set_cons_zero, List.set_cons_succ]
  refine wpAnyH_ready (rs := [4]) (by kernel_rfl) (by simp) ?_
  refine AllReadyH.cons (o := _) rfl (fun K' hK' => ?_) AllReadyH.nil
  have hO0 : (X.drew.alloc (.cells #[] 39)).ownsRow (w.heap.size + 1 + 1 + 1 + 1) 39 2 (.slice (some ⟨X.heap.size, 0, none⟩) 0 0) 0 [] := World.ownsRow_made _ _ _ hX (by simp [maxLen]) (by simp)
  refine step_append_rd rfl (.tmp 21) (.tmp 24) 24 (by rfl) (w.heap.size + 1 + 1 + 1 + 1) 39 i0 _ 2 24 Try.underlying24 hi hz0 hz1 hz2 rfl (by omega) (.slice (some ⟨X.heap.size, 0, none⟩) 0 0) 0 [] (by rfl) hO0 (some ⟨b.block, b.off + 2, none⟩) (n - 1) (c - 1) (cellsM ms) (by rfl) (hT.out.toC.below hHeld.2.2.1.out) (cellsM_one ms) (by unfold maxLen; omega) (by omega) (by have := hHeld.2.2.2; omega) ?_
  intro v1 x1 hAp
  have hne : ∀ g, g ≠ X.heap.size → (Value.slice (some ⟨X.heap.size, 0, none⟩) 0 0).ownBlock ≠ some g := fun g hg e => by injection e with e; exact hg e.symm
  have hO1 : x1.ownsRow (w.heap.size + 1 + 1 + 1 + 1) 39 2 v1 (n - 1) (cellsM ms) := by simpa using hAp.own
  have y0 : x1.cell? ⟨w.heap.size + 1 + 1, 0, none⟩ = some (.slice none 0 0) := hAp.cell (by exact cell_up z0 _) (hne _ (by simp <;> omega))
  have y1 : x1.cell? ⟨w.heap.size + 1 + 1, 1, none⟩ = some (.int .i64 0) := hAp.cell (by exact cell_up z1 _) (hne _ (by simp <;> omega))
  have y2 : x1.cell? ⟨w.heap.size + 1 + 1 + 1, 0, none⟩ = some (.int .u64 0) := hAp.cell (by exact cell_up z2 _) (hne _ (by simp <;> omega))
  have y3 : x1.cell? ⟨w.heap.size + 1 + 1 + 1, 1, none⟩ = some (.string ⟨#[]⟩) := hAp.cell (by exact cell_up z3 _) (hne _ (by simp <;> omega))
  have g0 : ∀ j, x1.frozen? ⟨w.heap.size + 1 + 1, j, none⟩ = false := fun j => (hAp.frozen (by simp <;> omega) (hne _ (by simp <;> omega))).trans (by exact frozen_up (f0 j) (by show w.heap.size + 1 + 1 < _; omega) _)
  have g1 : ∀ j, x1.frozen? ⟨w.heap.size + 1 + 1 + 1, j, none⟩ = false := fun j => (hAp.frozen (by simp <;> omega) (hne _ (by simp <;> omega))).trans (by exact frozen_up (f1 j) (by show w.heap.size + 1 + 1 + 1 < _; omega) _)
  obtain ⟨A1, d1, rfl, hA1⟩ := own_slice hO1
  have hOw := hide hO1
  refine hK'.out _ _ ?_ (fun hHeld => ?_)
  · exact hHeld.app hAp hO0
  clear hK' K'
  try simp only [Act.put, List.setIfInBounds_toArray, List.set_cons_zero, List.set_cons_succ]
  clear hAp hO0 hO1
  refine wpAnyHN_take (i := 7) (oi := _) (some 28) (v := ?v27) rfl rfl (by kernel_rfl) (by kernel_rfl) (by kernel_rfl) (Or.inl ⟨by rfl, ?hy27⟩) hHeld ?rest27
  case hy27 =>
    intro w' hSw
    clear hSw
    go_simp
    try (with_reducible rfl)
  try simp only [Act.put, List.setIfInBounds_toArray, List.set_cons_zero, List.set_cons_succ]
  refine wpAnyH_ready (rs := [12]) (by kernel_rfl) (by simp) ?_
  refine AllReadyH.cons (o := _) rfl (fun K' hK' => ?_) AllReadyH.nil
  go_simp
  refine hK'.out _ _ ?_ (fun hHeld => ?_)
  · first | exact ((hHeld.store _ 0 (by omega) _).store _ 1 (by omega) _) | exact hHeld
  clear hK' K'
  try simp only [Act.put, List.setIfInBounds_toArray, List.set_cons_zero, List.set_cons_succ]
  refine wpAnyH_ready (rs := [13]) (by kernel_rfl) (by simp) ?_
  refine AllReadyH.cons (o := _) rfl (fun K' hK' => ?_) AllReadyH.nil
  go_simp
  refine hK'.out _ _ ?_ (fun hHeld => ?_)
  · first | exact ((hHeld.store _ 0 (by omega) _).store _ 1 (by omega) _) | exact hHeld
  clear hK' K'
  try simp only [Act.put, List.setIfInBounds_toArray, List.set_cons_zero, List.set_cons_succ]
  refine wpAnyHN_take (i := 14) (oi := _) (some 6) (v := ?v28) rfl rfl (by kernel_rfl) (by kernel_rfl) (by kernel_rfl) (Or.inl ⟨by rfl, ?hy28⟩) hHeld ?rest28
  case hy28 =>
    intro w' hSw
    clear hSw
    go_simp
    try (with_reducible rfl)
  try simp only [Act.put, List.setIfInBounds_toArray, List.set_cons_zero, List.set_cons_succ]
  refine wpAnyH_done (by kernel_rfl) ?_ _
  refine NoPanic.normal ?_
  have hBe := hHeld.2.2.1
  have k5 : w.heap.size + 1 + 1 < x1.heap.size := World.block_lt_of_cell? _ _ y0
  have k6 : w.heap.size + 1 + 1 + 1 < x1.heap.size := World.block_lt_of_cell? _ _ y2
  clear hHeld hRT c0 c1
  go_wp2
  exact bodyPost_ret (v := .tuple #[.agg #[.slice A1 (n - 1) d1, .int .i64 lost], .agg #[.int .u64 m.1, .string m.2], .int .i64 0]) (by simp [results, Try.results15, go_sem, y0, y1, y2, y3, k5, k6]) rfl ⟨A1, d1, rfl, ((((Rd.of_own hOw.out).setCell (fun q hq => by have := hA1 q hq; simp; omega) _).setCell (fun q hq => by have := hA1 q hq; simp; omega) _).setCell (fun q hq => by have := hA1 q hq; simp; omega) _).setCell (fun q hq => by have := hA1 q hq; simp; omega) _, hBe.out⟩

set_option maxHeartbeats 1000000 in
theorem rtake_queue1 (kind fr to size depth lost : Int) (A : Option Addr) (m : Msg) (w : World) (h : Rd w A 1 1 [m]) (hk : (kind == 1) = false) :
    Calls Try.prog 15 #[.agg #[.int .i64 kind, .int .i64 fr, .int .i64 to, .int .i64 size, .int .i64 depth], .agg #[.slice A 1 1, .int .i64 lost]] w fun e w' =>
      ∃ A' c', e = .returned (.tuple #[.agg #[.slice A' 0 c', .int .i64 lost], .agg #[.int .u64 m.1, .string m.2], .int .i64 0]) ∧ Rd w' A' 0 c' [] ∧ Below w.heap.size w w' := by
  have hT := hide (show Rd w A 0 0 [] from h.tail0)
  obtain ⟨i0, hi, hz0, hz1, hz2⟩ := info_parts infoMsg
  obtain ⟨b, m', rfl, hlt, hm, c0, c1⟩ := h.at_ (k := 0) (by omega)
  simp at hm
  subst hm
  clear h
  go_enter Try.func15, Try.ntmps15
  go_wp2_with fail
  have hRT : RT w (some b) 1 1 lost ((((w.alloc (.cells #[.int .i64 kind, .int .i64 fr, .int .i64 to, .int .i64 size, .int .i64 depth] 23)).alloc (.cells #[.slice (some b) 1 1, .int .i64 lost] 26)).alloc (.cells #[.slice none 0 0, .int .i64 0] 26)).alloc (.cells #[.int .u64 0, .string ⟨#[]⟩] 39)).drew := by
    refine ⟨?_, ?_, (((((Below.refl _ _).alloc (Nat.le_refl _) _).alloc (by simp) _).alloc (by simp <;> omega) _).alloc (by simp <;> omega) _).drew, by show _ ≤ ((((w.alloc (.cells #[.int .i64 kind, .int .i64 fr, .int .i64 to, .int .i64 size, .int .i64 depth] 23)).alloc (.cells #[.slice (some b) 1 1, .int .i64 lost] 26)).alloc (.cells #[.slice none 0 0, .int .i64 0] 26)).alloc (.cells #[.int .u64 0, .string ⟨#[]⟩] 39)).heap.size; simp <;> omega⟩
    all_goals go_simp
  have z0 : ((((w.alloc (.cells #[.int .i64 kind, .int .i64 fr, .int .i64 to, .int .i64 size, .int .i64 depth] 23)).alloc (.cells #[.slice (some b) 1 1, .int .i64 lost] 26)).alloc (.cells #[.slice none 0 0, .int .i64 0] 26)).alloc (.cells #[.int .u64 0, .string ⟨#[]⟩] 39)).cell? ⟨w.heap.size + 1 + 1, 0, none⟩ = some (.slice none 0 0) := by go_simp
  have z1 : ((((w.alloc (.cells #[.int .i64 kind, .int .i64 fr, .int .i64 to, .int .i64 size, .int .i64 depth] 23)).alloc (.cells #[.slice (some b) 1 1, .int .i64 lost] 26)).alloc (.cells #[.slice none 0 0, .int .i64 0] 26)).alloc (.cells #[.int .u64 0, .string ⟨#[]⟩] 39)).cell? ⟨w.heap.size + 1 + 1, 1, none⟩ = some (.int .i64 0) := by go_simp
  have z2 : ((((w.alloc (.cells #[.int .i64 kind, .int .i64 fr, .int .i64 to, .int .i64 size, .int .i64 depth] 23)).alloc (.cells #[.slice (some b) 1 1, .int .i64 lost] 26)).alloc (.cells #[.slice none 0 0, .int .i64 0] 26)).alloc (.cells #[.int .u64 0, .string ⟨#[]⟩] 39)).cell? ⟨w.heap.size + 1 + 1 + 1, 0, none⟩ = some (.int .u64 0) := by go_simp
  have z3 : ((((w.alloc (.cells #[.int .i64 kind, .int .i64 fr, .int .i64 to, .int .i64 size, .int .i64 depth] 23)).alloc (.cells #[.slice (some b) 1 1, .int .i64 lost] 26)).alloc (.cells #[.slice none 0 0, .int .i64 0] 26)).alloc (.cells #[.int .u64 0, .string ⟨#[]⟩] 39)).cell? ⟨w.heap.size + 1 + 1 + 1, 1, none⟩ = some (.string ⟨#[]⟩) := by go_simp
  have f0 : ∀ j, ((((w.alloc (.cells #[.int .i64 kind, .int .i64 fr, .int .i64 to, .int .i64 size, .int .i64 depth] 23)).alloc (.cells #[.slice (some b) 1 1, .int .i64 lost] 26)).alloc (.cells #[.slice none 0 0, .int .i64 0] 26)).alloc (.cells #[.int .u64 0, .string ⟨#[]⟩] 39)).frozen? ⟨w.heap.size + 1 + 1, j, none⟩ = false := fun j => by go_simp
  have f1 : ∀ j, ((((w.alloc (.cells #[.int .i64 kind, .int .i64 fr, .int .i64 to, .int .i64 size, .int .i64 depth] 23)).alloc (.cells #[.slice (some b) 1 1, .int .i64 lost] 26)).alloc (.cells #[.slice none 0 0, .int .i64 0] 26)).alloc (.cells #[.int .u64 0, .string ⟨#[]⟩] 39)).frozen? ⟨w.heap.size + 1 + 1 + 1, j, none⟩ = false := fun j => by go_simp
  have hX : w.heap.size + 1 + 1 + 1 + 1 ≤ ((((w.alloc (.cells #[.int .i64 kind, .int .i64 fr, .int .i64 to, .int .i64 size, .int .i64 depth] 23)).alloc (.cells #[.slice (some b) 1 1, .int .i64 lost] 26)).alloc (.cells #[.slice none 0 0, .int .i64 0] 26)).alloc (.cells #[.int .u64 0, .string ⟨#[]⟩] 39)).heap.size := by simp
  generalize ((((w.alloc (.cells #[.int .i64 kind, .int .i64 fr, .int .i64 to, .int .i64 size, .int .i64 depth] 23)).alloc (.cells #[.slice (some b) 1 1, .int .i64 lost] 26)).alloc (.cells #[.slice none 0 0, .int .i64 0] 26)).alloc (.cells #[.int .u64 0, .string ⟨#[]⟩] 39)) = X at hRT z0 z1 z2 z3 f0 f1 hX ⊢
  refine wp_region_noPanic ?_
  refine wp_region_held_drew (S := RT w (some b) 1 1 lost) (by kernel_rfl) (hRT) (fun hHeld => ?_)
  refine wpAnyHN_take (i := 1) (oi := _) (some 22) (v := ?v18) rfl rfl (by kernel_rfl) (by kernel_rfl) (by kernel_rfl) (Or.inl ⟨by rfl, ?hy18⟩) hHeld ?rest18
  case hy18 =>
    intro w' hSw
    clear hSw
    go_simp
    try (with_reducible rfl)
  try simp only [Act.put, List.setIfInBounds_toArray, List.set_cons_zero, List.set_cons_succ]
  refine wpAnyHN_take (i := 2) (oi := _) (some 23) (v := ?v19) rfl rfl (by kernel_rfl) (by kernel_rfl) (by kernel_rfl) (Or.inl ⟨by rfl, ?hy19⟩) hHeld ?rest19
  case hy19 =>
    intro w' hSw
    obtain ⟨k1, k2, -, -⟩ := id hSw
    go_simp
    try (with_reducible rfl)
  try simp only [Act.put, List.setIfInBounds_toArray, List.set_cons_zero, List.set_cons_succ]
  refine wpAnyHN_take (i := 3) (oi := _) (some 24) (v := ?v20) rfl rfl (by kernel_rfl) (by kernel_rfl) (by kernel_rfl) (Or.inl ⟨by rfl, ?hy20⟩) hHeld ?rest20
  case hy20 =>
    intro w' hSw
    clear hSw
    go_simp
    try (with_reducible rfl)
  try simp only [Act.put, List.setIfInBounds_toArray, List.set_cons_zero, List.set_cons_succ]
  refine wpAnyHN_take (i := 5) (oi := _) (some 26) (v := ?v21) rfl rfl (by kernel_rfl) (by kernel_rfl) (by kernel_rfl) (Or.inl ⟨by rfl, ?hy21⟩) hHeld ?rest21
  case hy21 =>
    intro w' hSw
    clear hSw
    go_simp
    try (with_reducible rfl)
  try simp only [Act.put, List.setIfInBounds_toArray, List.set_cons_zero, List.set_cons_succ]
  refine wpAnyHN_take (i := 6) (oi := _) (some 27) (v := ?v22) rfl rfl (by kernel_rfl) (by kernel_rfl) (by kernel_rfl) (Or.inl ⟨by rfl, ?hy22⟩) hHeld ?rest22
  case hy22 =>
    intro w' hSw
    obtain ⟨k1, k2, -, -⟩ := id hSw
    go_simp
    try (with_reducible rfl)
  try simp only [Act.put, List.setIfInBounds_toArray, List.set_cons_zero, List.set_cons_succ]
  refine wpAnyHN_take (i := 8) (oi := _) (some 29) (v := ?v23) rfl rfl (by kernel_rfl) (by kernel_rfl) (by kernel_rfl) (Or.inl ⟨by rfl, ?hy23⟩) hHeld ?rest23
  case hy23 =>
    intro w' hSw
    clear hSw
    go_simp
    try (with_reducible rfl)
  try simp only [Act.put, List.setIfInBounds_toArray, List.set_cons_zero, List.set_cons_succ]
  refine wpAnyHN_take (i := 9) (oi := _) (some 30) (v := ?v24) rfl rfl (by kernel_rfl) (by kernel_rfl) (by kernel_rfl) (Or.inl ⟨by rfl, ?hy24⟩) hHeld ?rest24
  case hy24 =>
    intro w' hSw
    obtain ⟨k1, k2, -, -⟩ := id hSw
    go_simp
    try (with_reducible rfl)
  try simp only [Act.put, List.setIfInBounds_toArray, List.set_cons_zero, List.set_cons_succ]
  refine wpAnyHN_take (i := 10) (oi := _) (some 31) (v := ?v25) rfl rfl (by kernel_rfl) (by kernel_rfl) (by kernel_rfl) (Or.inl ⟨by rfl, ?hy25⟩) hHeld ?rest25
  case hy25 =>
    intro w' hSw
    clear hSw
    go_simp
    try (with_reducible rfl)
  try simp only [Act.put, List.setIfInBounds_toArray, List.set_cons_zero, List.set_cons_succ]
  refine wpAnyHN_take (i := 11) (oi := _) (some 32) (v := ?v26) rfl rfl (by kernel_rfl) (by kernel_rfl) (by kernel_rfl) (Or.inl ⟨by rfl, ?hy26⟩) hHeld ?rest26
  case hy26 =>
    intro w' hSw
    have k3 := (hSw.2.2.1.out.cell hlt).trans c0
    have k4 := (hSw.2.2.1.out.cell (p := ⟨b.block, b.off + 1, none⟩) hlt).trans c1
    go_simp
    try (with_reducible rfl)
  try simp only [Act.put, List.setIfInBounds_toArray, List.set_cons_zero, List.set_cons_succ]
  refine wpAnyH_ready (rs := [0]) (by kernel_rfl) (by simp) ?_
  refine AllReadyH.cons (o := _) rfl (fun K' hK' => ?_) AllReadyH.nil
  go_simp
  refine hK'.out _ _ ?_ (fun hHeld => ?_)
  · exact hHeld.alloc _
  clear hK' K'
  try simp only [Act.put, List.setIfInBounds_toArray, List.set_cons_zero, List.set_cons_succ]
  refine wpAnyH_ready (rs := [4]) (by kernel_rfl) (by simp) ?_
  refine AllReadyH.cons (o := _) rfl (fun K' hK' => ?_) AllReadyH.nil
  have hO0 : (X.drew.alloc (.cells #[] 39)).ownsRow (w.heap.size + 1 + 1 + 1 + 1) 39 2 (.slice (some ⟨X.heap.size, 0, none⟩) 0 0) 0 [] := World.ownsRow_made _ _ _ hX (by simp [maxLen]) (by simp)
  refine step_append_rd rfl (.tmp 21) (.tmp 24) 24 (by rfl) (w.heap.size + 1 + 1 + 1 + 1) 39 i0 _ 2 24 Try.underlying24 hi hz0 hz1 hz2 rfl (by omega) (.slice (some ⟨X.heap.size, 0, none⟩) 0 0) 0 [] (by rfl) hO0 (some b) 0 0 [] (by rfl) (hT.out.toC.below hHeld.2.2.1.out) (fun u hu => by cases hu) (by unfold maxLen; omega) (by omega) (by have := hHeld.2.2.2; omega) ?_
  intro v1 x1 hAp
  have hne : ∀ g, g ≠ X.heap.size → (Value.slice (some ⟨X.heap.size, 0, none⟩) 0 0).ownBlock ≠ some g := fun g hg e => by injection e with e; exact hg e.symm
  have hO1 : x1.ownsRow (w.heap.size + 1 + 1 + 1 + 1) 39 2 v1 0 [] := by simpa using hAp.own
  have y0 : x1.cell? ⟨w.heap.size + 1 + 1, 0, none⟩ = some (.slice none 0 0) := hAp.cell (by exact cell_up z0 _) (hne _ (by simp <;> omega))
  have y1 : x1.cell? ⟨w.heap.size + 1 + 1, 1, none⟩ = some (.int .i64 0) := hAp.cell (by exact cell_up z1 _) (hne _ (by simp <;> omega))
  have y2 : x1.cell? ⟨w.heap.size + 1 + 1 + 1, 0, none⟩ = some (.int .u64 0) := hAp.cell (by exact cell_up z2 _) (hne _ (by simp <;> omega))
  have y3 : x1.cell? ⟨w.heap.size + 1 + 1 + 1, 1, none⟩ = some (.string ⟨#[]⟩) := hAp.cell (by exact cell_up z3 _) (hne _ (by simp <;> omega))
  have g0 : ∀ j, x1.frozen? ⟨w.heap.size + 1 + 1, j, none⟩ = false := fun j => (hAp.frozen (by simp <;> omega) (hne _ (by simp <;> omega))).trans (by exact frozen_up (f0 j) (by show w.heap.size + 1 + 1 < _; omega) _)
  have g1 : ∀ j, x1.frozen? ⟨w.heap.size + 1 + 1 + 1, j, none⟩ = false := fun j => (hAp.frozen (by simp <;> omega) (hne _ (by simp <;> omega))).trans (by exact frozen_up (f1 j) (by show w.heap.size + 1 + 1 + 1 < _; omega) _)
  obtain ⟨A1, d1, rfl, hA1⟩ := own_slice hO1
  have hOw := hide hO1
  refine hK'.out _ _ ?_ (fun hHeld => ?_)
  · exact hHeld.app hAp hO0
  clear hK' K'
  try simp only [Act.put, List.setIfInBounds_toArray, List.set_cons_zero, List.set_cons_succ]
  clear hAp hO0 hO1
  refine wpAnyHN_take (i := 7) (oi := _) (some 28) (v := ?v27) rfl rfl (by kernel_rfl) (by kernel_rfl) (by kernel_rfl) (Or.inl ⟨by rfl, ?hy27⟩) hHeld ?rest27
  case hy27 =>
    intro w' hSw
    clear hSw
    go_simp
    try (with_reducible rfl)
  try simp only [Act.put, List.setIfInBounds_toArray, List.set_cons_zero, List.set_cons_succ]
  refine wpAnyH_ready (rs := [12]) (by kernel_rfl) (by simp) ?_
  refine AllReadyH.cons (o := _) rfl (fun K' hK' => ?_) AllReadyH.nil
  go_simp
  refine hK'.out _ _ ?_ (fun hHeld => ?_)
  · first | exact ((hHeld.store _ 0 (by omega) _).store _ 1 (by omega) _) | exact hHeld
  clear hK' K'
  try simp only [Act.put, List.setIfInBounds_toArray, List.set_cons_zero, List.set_cons_succ]
  refine wpAnyH_ready (rs := [13]) (by kernel_rfl) (by simp) ?_
  refine AllReadyH.cons (o := _) rfl (fun K' hK' => ?_) AllReadyH.nil
  go_simp
  refine hK'.out _ _ ?_ (fun hHeld => ?_)
  · first | exact ((hHeld.store _ 0 (by omega) _).store _ 1 (by omega) _) | exact hHeld
  clear hK' K'
  try simp only [Act.put, List.setIfInBounds_toArray, List.set_cons_zero, List.set_cons_succ]
  refine wpAnyHN_take (i := 14) (oi := _) (some 6) (v := ?v28) rfl rfl (by kernel_rfl) (by kernel_rfl) (by kernel_rfl) (Or.inl ⟨by rfl, ?hy28⟩) hHeld ?rest28
  case hy28 =>
    intro w' hSw
    clear hSw
    go_simp
    try (with_reducible rfl)
  try simp only [Act.put, List.setIfInBounds_toArray, List.set_cons_zero, List.set_cons_succ]
  refine wpAnyH_done (by kernel_rfl) ?_ _
  refine NoPanic.normal ?_
  have hBe := hHeld.2.2.1
  have k5 : w.heap.size + 1 + 1 < x1.heap.size := World.block_lt_of_cell? _ _ y0
  have k6 : w.heap.size + 1 + 1 + 1 < x1.heap.size := World.block_lt_of_cell? _ _ y2
  clear hHeld hRT c0 c1
  go_wp2
  exact bodyPost_ret (v := .tuple #[.agg #[.slice A1 0 d1, .int .i64 lost], .agg #[.int .u64 m.1, .string m.2], .int .i64 0]) (by simp [results, Try.results15, go_sem, y0, y1, y2, y3, k5, k6]) rfl ⟨A1, d1, rfl, ((((Rd.of_own hOw.out).setCell (fun q hq => by have := hA1 q hq; simp; omega) _).setCell (fun q hq => by have := hA1 q hq; simp; omega) _).setCell (fun q hq => by have := hA1 q hq; simp; omega) _).setCell (fun q hq => by have := hA1 q hq; simp; omega) _, hBe.out⟩

end Go.Proofs.Ytepnfhjfjjdpkaa.Port
