/-
  The walk of the reference's Send: what it answers, what waits then. Conditions: the list has room for one more (24 bytes a message).
-/
import Derived.Test.YtepnfhjfjjdpkaaPortAny
import Derived.Test.YtepnfhjfjjdpkaaRowAppend
import Derived.Test.YtepnfhjfjjdpkaaRegionU
import Derived.Outline
import Derived.IntWalk
namespace Go.Proofs.Ytepnfhjfjjdpkaa.Port
open Go.RowKit

theorem Rd.toC {w : World} {A : Option Addr} {n c : Nat} {ms : List Msg} (h : Rd w A n c ms) : RdC w 2 A n c (cellsM ms) :=
  ⟨by rw [cellsM_length, h.1], h.2.1, h.2.2.1, h.2.2.2.1, h.2.2.2.2⟩
theorem Rd.ofC {w : World} {A : Option Addr} {n c : Nat} {ms : List Msg} (h : RdC w 2 A n c (cellsM ms)) : Rd w A n c ms :=
  ⟨by have := h.1; rw [cellsM_length] at this; omega, h.2.1, h.2.2.1, h.2.2.2.1, h.2.2.2.2⟩

set_option maxHeartbeats 400000 in
theorem rsend_big (kind fr to size depth lost now : Int) (A : Option Addr) (n c : Nat) (body : ByteArray) (w : World) (hm : body.size ≤ maxLen) (h : size < (body.size : Int)) :
    Calls Try.prog 14 #[.agg #[.int .i64 kind, .int .i64 fr, .int .i64 to, .int .i64 size, .int .i64 depth], .agg #[.slice A n c, .int .i64 lost], .int .u64 now, .string body] w fun e w' =>
      e = .returned (.tuple #[.agg #[.slice A n c, .int .i64 lost], .int .i64 4]) ∧ Below w.heap.size w w' := by
  unfold maxLen at hm
  go_enter Try.func14, Try.ntmps14
  go_wp2
  exact bodyPost_ret (v := .tuple #[.agg #[.slice A n c, .int .i64 lost], .int .i64 4]) (by simp [results, Try.results14, go_sem]) rfl ⟨rfl, by repeat (first | (with_reducible exact Below.refl _ _) | (with_reducible refine Below.setCell ?_ (by simp <;> omega) _) | (with_reducible refine Below.alloc ?_ (by simp <;> omega) _))⟩

set_option maxHeartbeats 400000 in
theorem rsend_sample (fr to size depth lost now : Int) (A : Option Addr) (n c : Nat) (body : ByteArray) (w : World) (hm : body.size ≤ maxLen) (h : (body.size : Int) ≤ size) :
    Calls Try.prog 14 #[.agg #[.int .i64 1, .int .i64 fr, .int .i64 to, .int .i64 size, .int .i64 depth], .agg #[.slice A n c, .int .i64 lost], .int .u64 now, .string body] w fun e w' =>
      ∃ A' c', e = .returned (.tuple #[.agg #[.slice A' 1 c', .int .i64 lost], .int .i64 0]) ∧ Rd w' A' 1 c' [(now, body)] ∧ Below w.heap.size w w' := by
  unfold maxLen at hm
  go_enter Try.func14, Try.ntmps14
  go_wp2
  refine bodyPost_ret (v := .tuple #[.agg #[.slice (some ⟨w.heap.size + 1 + 1 + 1 + 1, 0, none⟩) 1 1, .int .i64 lost], .int .i64 0]) (by simp [results, Try.results14, go_sem]) rfl ⟨_, _, rfl, ⟨rfl, Nat.le_refl _, by simp [maxLen], (fun h => by cases h), fun b hb => ?_⟩, by repeat (first | (with_reducible exact Below.refl _ _) | (with_reducible refine Below.setCell ?_ (by simp <;> omega) _) | (with_reducible refine Below.alloc ?_ (by simp <;> omega) _))⟩
  injection hb with hb
  subst hb
  refine ⟨fun _ => by simp, fun j u hu => ?_⟩
  have e : (⟨w.heap.size + 1 + 1 + 1 + 1, 0, none⟩ : Addr).add j = ⟨w.heap.size + 1 + 1 + 1 + 1, j, none⟩ := by unfold Addr.add; split <;> simp_all
  rw [e]
  have hu' : [Value.int .u64 now, Value.string body][j]? = some u := hu
  match j, hu' with
  | 0, hu' => simp at hu'; subst hu'; go_simp
  | 1, hu' => simp at hu'; subst hu'; go_simp

theorem rdC_one {w : World} {b : Nat} {now : Int} {body : ByteArray} (h0 : w.cell? ⟨b, 0, none⟩ = some (.int .u64 now)) (h1 : w.cell? ⟨b, 1, none⟩ = some (.string body)) : RdC w 2 (some ⟨b, 0, none⟩) 1 1 [.int .u64 now, .string body] := by
  refine ⟨rfl, Nat.le_refl _, by simp [maxLen], (fun h => by cases h), fun q hq => ?_⟩
  injection hq with hq
  subst hq
  refine ⟨fun _ => World.block_lt_of_cell? _ _ h0, fun j u hu => ?_⟩
  have e : (⟨b, 0, none⟩ : Addr).add j = ⟨b, j, none⟩ := by unfold Addr.add; split <;> simp_all
  rw [e]
  match j, hu with
  | 0, hu => simp at hu; subst hu; exact h0
  | 1, hu => simp at hu; subst hu; exact h1
theorem cell_up {w : World} {p : Addr} {v : Value} (h : w.cell? p = some v) (o : Obj) : (w.alloc o).cell? p = some v := ((below_new w o).cell (World.block_lt_of_cell? _ _ h)).trans h
theorem frozen_up {w : World} {p : Addr} {v : Bool} (h : w.frozen? p = v) (hl : p.block < w.heap.size) (o : Obj) : (w.alloc o).frozen? p = v := ((below_new w o).frozen hl).trans h
theorem one_msg (now : Int) (body : ByteArray) : ∀ u ∈ [Value.int .u64 now, Value.string body], u.oneCell' = true := by simp [Value.oneCell']

set_option maxHeartbeats 400000 in
theorem rsend_lost (kind fr to size depth lost now : Int) (A : Option Addr) (n c : Nat) (body : ByteArray) (w : World) (hm : body.size ≤ maxLen) (hn : n ≤ maxLen) (h : (body.size : Int) ≤ size) (hk : (kind == 1) = false) (hd : depth ≤ (n : Int)) :
    Calls Try.prog 14 #[.agg #[.int .i64 kind, .int .i64 fr, .int .i64 to, .int .i64 size, .int .i64 depth], .agg #[.slice A n c, .int .i64 lost], .int .u64 now, .string body] w fun e w' =>
      e = .returned (.tuple #[.agg #[.slice A n c, .int .i64 (wrap64 (lost + 1))], .int .i64 0]) ∧ Below w.heap.size w w' := by
  unfold maxLen at hm hn
  go_enter Try.func14, Try.ntmps14
  go_wp2
  exact bodyPost_ret (v := .tuple #[.agg #[.slice A n c, .int .i64 (wrap64 (lost + 1))], .int .i64 0]) (by simp [results, Try.results14, go_sem]) rfl ⟨rfl, by repeat (first | (with_reducible exact Below.refl _ _) | (with_reducible refine Below.setCell ?_ (by simp <;> omega) _) | (with_reducible refine Below.alloc ?_ (by simp <;> omega) _))⟩

/-- what the last statement's operations read, and what its steps keep -/
def RS (w0 : World) (A : Option Addr) (n c : Nat) (lost now : Int) (body : ByteArray) (w : World) : Prop :=
  w.cell? ⟨w0.heap.size + 1, 0, none⟩ = some (.slice A n c) ∧ w.cell? ⟨w0.heap.size + 1, 1, none⟩ = some (.int .i64 lost) ∧ w.cell? ⟨w0.heap.size + 1 + 1 + 1, 0, none⟩ = some (.int .u64 now) ∧ w.cell? ⟨w0.heap.size + 1 + 1 + 1, 1, none⟩ = some (.string body) ∧
  Hid (Below w0.heap.size w0 w) ∧ w0.heap.size + 1 + 1 + 1 + 1 ≤ w.heap.size
theorem RS.alloc {w0 : World} {A : Option Addr} {n c : Nat} {lost now : Int} {body : ByteArray} {w : World} (h : RS w0 A n c lost now body w) (o : Obj) : RS w0 A n c lost now body (w.alloc o) := by
  obtain ⟨h1, h2, h3, h4, hB, hs⟩ := h
  have step : ∀ {a : Addr} {v : Value}, w.cell? a = some v → (w.alloc o).cell? a = some v := fun h => ((below_new w o).cell (World.block_lt_of_cell? _ _ h)).trans h
  exact ⟨step h1, step h2, step h3, step h4, hB.out.alloc (by omega) o, by simp; omega⟩
theorem RS.app {w0 : World} {A : Option Addr} {n c : Nat} {lost now : Int} {body : ByteArray} {w w' : World} {v v' : Value} {k m : Nat} {xs news : List Value} (h : RS w0 A n c lost now body w)
    (hA : Appended (w0.heap.size + 1 + 1 + 1 + 1) 39 2 w v k m xs news v' w') (hown : w.ownsRow (w0.heap.size + 1 + 1 + 1 + 1) 39 2 v k xs) : RS w0 A n c lost now body w' := by
  obtain ⟨h1, h2, h3, h4, hB, hs⟩ := h
  have ne : ∀ g, g < w0.heap.size + 1 + 1 + 1 + 1 → v.ownBlock ≠ some g := fun g hg e => by have := (hown.lt g e).1; omega
  exact ⟨hA.cell h1 (ne _ (by simp <;> omega)), hA.cell h2 (ne _ (by simp <;> omega)), hA.cell h3 (ne _ (by simp)), hA.cell h4 (ne _ (by simp)), hA.below hown hB.out (by omega) (by omega), Nat.le_trans hs hA.hsize⟩
theorem RS.store {w0 : World} {A : Option Addr} {n c : Nat} {lost now : Int} {body : ByteArray} {w : World} (h : RS w0 A n c lost now body w) (j : Nat) (u : Value) : RS w0 A n c lost now body (w.setCell ⟨w0.heap.size + 1 + 1, j, none⟩ u) := by
  obtain ⟨h1, h2, h3, h4, hB, hs⟩ := h
  exact ⟨(World.cell?_setCell_other _ _ _ _ (by simp)).trans h1, (World.cell?_setCell_other _ _ _ _ (by simp)).trans h2, (World.cell?_setCell_other _ _ _ _ (by simp)).trans h3, (World.cell?_setCell_other _ _ _ _ (by simp)).trans h4, hB.out.setCell (by show w0.heap.size ≤ w0.heap.size + 1 + 1; omega) _, by rw [World.size_setCell]; exact hs⟩

set_option maxHeartbeats 1000000 in
theorem rsend_queue (kind fr to size depth lost now : Int) (A : Option Addr) (n c : Nat) (ms : List Msg) (body : ByteArray) (w : World) (hr : Rd w A n c ms) (hroom : (n + 1) * 24 ≤ 140737488355328) (hm : body.size ≤ maxLen) (h : (body.size : Int) ≤ size)
    (hk : (kind == 1) = false) (hd : (n : Int) < depth) :
    Calls Try.prog 14 #[.agg #[.int .i64 kind, .int .i64 fr, .int .i64 to, .int .i64 size, .int .i64 depth], .agg #[.slice A n c, .int .i64 lost], .int .u64 now, .string body] w fun e w' =>
      ∃ A' c', e = .returned (.tuple #[.agg #[.slice A' (n + 1) c', .int .i64 lost], .int .i64 0]) ∧ Rd w' A' (n + 1) c' (ms ++ [(now, body)]) ∧ Below w.heap.size w w' := by
  unfold maxLen at hm
  obtain ⟨i0, hi, hz0, hz1, hz2⟩ := info_parts infoMsg
  have hnc : n ≤ c := hr.2.1
  have hcm : c ≤ 9223372036854775807 := hr.2.2.1
  have hR := hide hr
  clear hr
  go_enter Try.func14, Try.ntmps14
  go_wp2_with fail
  have hRS0 : RS w A n c lost now body ((((w.alloc (.cells #[.int .i64 kind, .int .i64 fr, .int .i64 to, .int .i64 size, .int .i64 depth] 23)).alloc (.cells #[.slice A n c, .int .i64 lost] 26)).alloc (.cells #[.slice none 0 0, .int .i64 0] 26)).alloc (.cells #[.int .u64 now, .string body] 39)).drew := by
    refine ⟨?_, ?_, ?_, ?_, (((((Below.refl _ _).alloc (Nat.le_refl _) _).alloc (by simp) _).alloc (by simp <;> omega) _).alloc (by simp <;> omega) _).drew, by show _ ≤ ((((w.alloc (.cells #[.int .i64 kind, .int .i64 fr, .int .i64 to, .int .i64 size, .int .i64 depth] 23)).alloc (.cells #[.slice A n c, .int .i64 lost] 26)).alloc (.cells #[.slice none 0 0, .int .i64 0] 26)).alloc (.cells #[.int .u64 now, .string body] 39)).heap.size; simp⟩
    all_goals go_simp
  have z0 : ((((w.alloc (.cells #[.int .i64 kind, .int .i64 fr, .int .i64 to, .int .i64 size, .int .i64 depth] 23)).alloc (.cells #[.slice A n c, .int .i64 lost] 26)).alloc (.cells #[.slice none 0 0, .int .i64 0] 26)).alloc (.cells #[.int .u64 now, .string body] 39)).cell? ⟨w.heap.size + 1 + 1, 0, none⟩ = some (.slice none 0 0) := by go_simp
  have z1 : ((((w.alloc (.cells #[.int .i64 kind, .int .i64 fr, .int .i64 to, .int .i64 size, .int .i64 depth] 23)).alloc (.cells #[.slice A n c, .int .i64 lost] 26)).alloc (.cells #[.slice none 0 0, .int .i64 0] 26)).alloc (.cells #[.int .u64 now, .string body] 39)).cell? ⟨w.heap.size + 1 + 1, 1, none⟩ = some (.int .i64 0) := by go_simp
  have f0 : ((((w.alloc (.cells #[.int .i64 kind, .int .i64 fr, .int .i64 to, .int .i64 size, .int .i64 depth] 23)).alloc (.cells #[.slice A n c, .int .i64 lost] 26)).alloc (.cells #[.slice none 0 0, .int .i64 0] 26)).alloc (.cells #[.int .u64 now, .string body] 39)).frozen? ⟨w.heap.size + 1 + 1, 0, none⟩ = false := by go_simp
  have f1 : ((((w.alloc (.cells #[.int .i64 kind, .int .i64 fr, .int .i64 to, .int .i64 size, .int .i64 depth] 23)).alloc (.cells #[.slice A n c, .int .i64 lost] 26)).alloc (.cells #[.slice none 0 0, .int .i64 0] 26)).alloc (.cells #[.int .u64 now, .string body] 39)).frozen? ⟨w.heap.size + 1 + 1, 1, none⟩ = false := by go_simp
  have hX : w.heap.size + 1 + 1 + 1 + 1 ≤ ((((w.alloc (.cells #[.int .i64 kind, .int .i64 fr, .int .i64 to, .int .i64 size, .int .i64 depth] 23)).alloc (.cells #[.slice A n c, .int .i64 lost] 26)).alloc (.cells #[.slice none 0 0, .int .i64 0] 26)).alloc (.cells #[.int .u64 now, .string body] 39)).heap.size := by simp
  have hX2 : w.heap.size + 1 + 1 < ((((w.alloc (.cells #[.int .i64 kind, .int .i64 fr, .int .i64 to, .int .i64 size, .int .i64 depth] 23)).alloc (.cells #[.slice A n c, .int .i64 lost] 26)).alloc (.cells #[.slice none 0 0, .int .i64 0] 26)).alloc (.cells #[.int .u64 now, .string body] 39)).heap.size := by simp <;> omega
  generalize ((((w.alloc (.cells #[.int .i64 kind, .int .i64 fr, .int .i64 to, .int .i64 size, .int .i64 depth] 23)).alloc (.cells #[.slice A n c, .int .i64 lost] 26)).alloc (.cells #[.slice none 0 0, .int .i64 0] 26)).alloc (.cells #[.int .u64 now, .string body] 39)) = X at hX2 hRS0 z0 z1 f0 f1 hX ⊢
  refine wp_region_noPanic ?_
  refine wp_region_held_drew (S := RS w A n c lost now body) (by kernel_rfl) (hRS0) (fun hHeld => ?_)
  refine wpAnyHN_take (i := 1) (oi := _) (some 41) (v := ?v1) rfl rfl (by kernel_rfl) (by kernel_rfl) (by kernel_rfl) (Or.inl ⟨by rfl, ?hy1⟩) hHeld ?rest1
  case hy1 =>
    intro w' hSw
    clear hSw
    go_simp
    try (with_reducible rfl)
  try simp only [Act.put, List.setIfInBounds_toArray, List.set_cons_zero, List.set_cons_succ]
  refine wpAnyHN_take (i := 2) (oi := _) (some 42) (v := ?v2) rfl rfl (by kernel_rfl) (by kernel_rfl) (by kernel_rfl) (Or.inl ⟨by rfl, ?hy2⟩) hHeld ?rest2
  case hy2 =>
    intro w' hSw
    obtain ⟨k1, k2, k3, k4, -, -⟩ := hSw
    go_simp
    try (with_reducible rfl)
  try simp only [Act.put, List.setIfInBounds_toArray, List.set_cons_zero, List.set_cons_succ]
  refine wpAnyHN_take (i := 4) (oi := _) (some 44) (v := ?v3) rfl rfl (by kernel_rfl) (by kernel_rfl) (by kernel_rfl) (Or.inl ⟨by rfl, ?hy3⟩) hHeld ?rest3
  case hy3 =>
    intro w' hSw
    obtain ⟨k1, k2, k3, k4, -, -⟩ := hSw
    go_simp
    try (with_reducible rfl)
  try simp only [Act.put, List.setIfInBounds_toArray, List.set_cons_zero, List.set_cons_succ]
  refine wpAnyHN_take (i := 7) (oi := _) (some 47) (v := ?v4) rfl rfl (by kernel_rfl) (by kernel_rfl) (by kernel_rfl) (Or.inl ⟨by rfl, ?hy4⟩) hHeld ?rest4
  case hy4 =>
    intro w' hSw
    clear hSw
    go_simp
    try (with_reducible rfl)
  try simp only [Act.put, List.setIfInBounds_toArray, List.set_cons_zero, List.set_cons_succ]
  refine wpAnyHN_take (i := 8) (oi := _) (some 48) (v := ?v5) rfl rfl (by kernel_rfl) (by kernel_rfl) (by kernel_rfl) (Or.inl ⟨by rfl, ?hy5⟩) hHeld ?rest5
  case hy5 =>
    intro w' hSw
    obtain ⟨k1, k2, k3, k4, -, -⟩ := hSw
    go_simp
    try (with_reducible rfl)
  try simp only [Act.put, List.setIfInBounds_toArray, List.set_cons_zero, List.set_cons_succ]
  refine wpAnyH_ready (rs := [0, 5]) (by kernel_rfl) (by simp) ?_
  refine AllReadyH.cons (o := _) rfl (fun K' hK' => ?_) ?_
  · go_simp
    refine hK'.out _ _ ?_ (fun hHeld => ?_)
    · exact hHeld.alloc _
    clear hK' K'
    try simp only [Act.put, List.setIfInBounds_toArray, List.set_cons_zero, List.set_cons_succ]
    refine wpAnyH_ready (rs := [3, 5]) (by kernel_rfl) (by simp) ?_
    refine AllReadyH.cons (o := _) rfl (fun K' hK' => ?_) ?_
    · have hO0 : (X.drew.alloc (.cells #[] 39)).ownsRow (w.heap.size + 1 + 1 + 1 + 1) 39 2 (.slice (some ⟨X.heap.size, 0, none⟩) 0 0) 0 [] := World.ownsRow_made _ _ _ (by first | exact hX | (simp; omega)) (by simp [maxLen]) (by simp)
      refine step_append_rd rfl (.tmp 40) (.tmp 42) 24 (by rfl) (w.heap.size + 1 + 1 + 1 + 1) 39 i0 _ 2 24 Try.underlying24 hi hz0 hz1 hz2 rfl (by omega) (.slice (some ⟨X.heap.size, 0, none⟩) 0 0) 0 [] (by rfl) hO0 A n c (cellsM ms) (by rfl) (hR.out.toC.below hHeld.2.2.2.2.1.out) (cellsM_one ms) (by unfold maxLen; omega) (by omega) (by have := hHeld.2.2.2.2.2; omega) ?_
      intro v1 x1 hAp
      have hne : ∀ g, g ≠ X.heap.size → (Value.slice (some ⟨X.heap.size, 0, none⟩) 0 0).ownBlock ≠ some g := fun g hg e => by injection e with e; exact hg e.symm
      have hO1 : x1.ownsRow (w.heap.size + 1 + 1 + 1 + 1) 39 2 v1 n (cellsM ms) := by simpa using hAp.own
      have hs1 : X.heap.size + 1 ≤ x1.heap.size := by
        have := hAp.hsize
        rw [show ∀ w : World, w.drew.heap = w.heap from fun _ => rfl] at this
        simp only [World.size_alloc] at this
        omega
      have y0 : x1.cell? ⟨w.heap.size + 1 + 1, 0, none⟩ = some (.slice none 0 0) := hAp.cell (by first | exact cell_up z0 _ | exact cell_up (cell_up z0 _) _) (hne _ (by simp; omega))
      have y1 : x1.cell? ⟨w.heap.size + 1 + 1, 1, none⟩ = some (.int .i64 0) := hAp.cell (by first | exact cell_up z1 _ | exact cell_up (cell_up z1 _) _) (hne _ (by simp; omega))
      have yf0 : x1.frozen? ⟨w.heap.size + 1 + 1, 0, none⟩ = false := (hAp.frozen (by simp; omega) (hne _ (by simp; omega))).trans (by first | exact frozen_up f0 hX2 _ | exact frozen_up (frozen_up f0 hX2 _) (Nat.lt_of_lt_of_le hX2 (below_new X _).size) _)
      have yf1 : x1.frozen? ⟨w.heap.size + 1 + 1, 1, none⟩ = false := (hAp.frozen (by simp; omega) (hne _ (by simp; omega))).trans (by first | exact frozen_up f1 hX2 _ | exact frozen_up (frozen_up f1 hX2 _) (Nat.lt_of_lt_of_le hX2 (below_new X _).size) _)
      refine hK'.out _ _ ?_ (fun hHeld => ?_)
      · exact hHeld.app hAp hO0
      clear hK' K'
      try simp only [Act.put, List.setIfInBounds_toArray, List.set_cons_zero, List.set_cons_succ]
      refine wpAnyH_ready (rs := [5]) (by kernel_rfl) (by simp) ?_
      refine AllReadyH.cons (o := _) rfl (fun K' hK' => ?_) AllReadyH.nil
      go_simp
      refine hK'.out _ _ ?_ (fun hHeld => ?_)
      · exact hHeld.alloc _
      clear hK' K'
      try simp only [Act.put, List.setIfInBounds_toArray, List.set_cons_zero, List.set_cons_succ]
      refine wpAnyH_ready (rs := [6]) (by kernel_rfl) (by simp) ?_
      refine AllReadyH.cons (o := _) rfl (fun K' hK' => ?_) AllReadyH.nil
      have hY2 : w.heap.size + 1 + 1 < x1.heap.size := World.block_lt_of_cell? _ _ y0
      have hO2 : (x1.alloc (.cells #[.int .u64 now, .string body] 39)).ownsRow (w.heap.size + 1 + 1 + 1 + 1) 39 2 v1 n (cellsM ms) := hO1.alloc _
      refine step_append_rd rfl (.tmp 43) (.tmp 45) 24 (by rfl) (w.heap.size + 1 + 1 + 1 + 1) 39 i0 _ 2 24 Try.underlying24 hi hz0 hz1 hz2 rfl (by omega) v1 n (cellsM ms) (by rfl) hO2 (some ⟨x1.heap.size, 0, none⟩) 1 1 [.int .u64 now, .string body] (by rfl) (rdC_one (by go_simp) (by go_simp)) (one_msg _ _) (by unfold maxLen; omega) (by omega) (by have := hHeld.2.2.2.2.2; omega) ?_
      intro v2 x2 hAp2
      obtain ⟨g2, cap2, rfl, hg2⟩ := own_form hAp2.own
      have hne2 : ∀ g, g < (w.heap.size + 1 + 1 + 1 + 1) → v1.ownBlock ≠ some g := fun g hg e => by have := (hO2.lt g e).1; omega
      have q0 : x2.cell? ⟨w.heap.size + 1 + 1, 0, none⟩ = some (.slice none 0 0) := hAp2.cell (cell_up y0 _) (hne2 _ (by simp))
      have q1 : x2.cell? ⟨w.heap.size + 1 + 1, 1, none⟩ = some (.int .i64 0) := hAp2.cell (cell_up y1 _) (hne2 _ (by simp))
      have qf0 : x2.frozen? ⟨w.heap.size + 1 + 1, 0, none⟩ = false := (hAp2.frozen (by have := World.block_lt_of_cell? _ _ y0; simp at this ⊢ <;> omega) (hne2 _ (by simp))).trans (frozen_up yf0 hY2 _)
      have qf1 : x2.frozen? ⟨w.heap.size + 1 + 1, 1, none⟩ = false := (hAp2.frozen (by have := World.block_lt_of_cell? _ _ y0; simp at this ⊢ <;> omega) (hne2 _ (by simp))).trans (frozen_up yf1 hY2 _)
      have hOw := hide (show x2.ownsRow (w.heap.size + 1 + 1 + 1 + 1) 39 2 (.slice (some ⟨g2, 0, none⟩) (n + 1) cap2) (n + 1) (cellsM (ms ++ [(now, body)])) from by rw [cellsM_append]; exact hAp2.own)
      refine hK'.out _ _ ?_ (fun hHeld => ?_)
      · exact hHeld.app hAp2 hO2
      clear hK' K'
      try simp only [Act.put, List.setIfInBounds_toArray, List.set_cons_zero, List.set_cons_succ]
      clear hAp2 hO2 hne2
      refine wpAnyHN_take (i := 9) (oi := _) (some 49) (v := ?v6) rfl rfl (by kernel_rfl) (by kernel_rfl) (by kernel_rfl) (Or.inl ⟨by rfl, ?hy6⟩) hHeld ?rest6
      case hy6 =>
        intro w' hSw
        clear hSw
        go_simp
        try (with_reducible rfl)
      try simp only [Act.put, List.setIfInBounds_toArray, List.set_cons_zero, List.set_cons_succ]
      refine wpAnyH_ready (rs := [10]) (by kernel_rfl) (by simp) ?_
      refine AllReadyH.cons (o := _) rfl (fun K' hK' => ?_) AllReadyH.nil
      go_simp
      refine hK'.out _ _ ?_ (fun hHeld => ?_)
      · exact (hHeld.store 0 _).store 1 _
      clear hK' K'
      try simp only [Act.put, List.setIfInBounds_toArray, List.set_cons_zero, List.set_cons_succ]
      refine wpAnyHN_take (i := 11) (oi := _) (some 9) (v := ?v7) rfl rfl (by kernel_rfl) (by kernel_rfl) (by kernel_rfl) (Or.inl ⟨by rfl, ?hy7⟩) hHeld ?rest7
      case hy7 =>
        intro w' hSw
        clear hSw
        go_simp
        try (with_reducible rfl)
      try simp only [Act.put, List.setIfInBounds_toArray, List.set_cons_zero, List.set_cons_succ]
      refine wpAnyH_done (by kernel_rfl) ?_ _
      refine NoPanic.normal ?_
      have hBe := hHeld.2.2.2.2.1
      clear hHeld
      go_wp2
      refine bodyPost_ret (v := .tuple #[.agg #[.slice (some ⟨g2, 0, none⟩) (n + 1) cap2, .int .i64 lost], .int .i64 0]) (by simp [results, Try.results14, go_sem, q0, q1]) rfl ⟨_, _, rfl, ?_, hBe.out⟩
      have hh := Rd.of_own hOw.out
      exact (hh.setCell (fun b hb => by injection hb with hb; subst hb; simp <;> omega) _).setCell (fun b hb => by injection hb with hb; subst hb; simp <;> omega) _
    refine AllReadyH.cons (o := _) rfl (fun K' hK' => ?_) AllReadyH.nil
    go_simp
    refine hK'.out _ _ ?_ (fun hHeld => ?_)
    · exact hHeld.alloc _
    clear hK' K'
    try simp only [Act.put, List.setIfInBounds_toArray, List.set_cons_zero, List.set_cons_succ]
    refine wpAnyH_ready (rs := [3]) (by kernel_rfl) (by simp) ?_
    refine AllReadyH.cons (o := _) rfl (fun K' hK' => ?_) AllReadyH.nil
    have hO0 : ((X.drew.alloc (.cells #[] 39)).alloc (.cells #[.int .u64 now, .string body] 39)).ownsRow (w.heap.size + 1 + 1 + 1 + 1) 39 2 (.slice (some ⟨X.heap.size, 0, none⟩) 0 0) 0 [] := (World.ownsRow_made _ _ _ (by first | exact hX | (simp; omega)) (by simp [maxLen]) (by simp)).alloc _
    refine step_append_rd rfl (.tmp 40) (.tmp 42) 24 (by rfl) (w.heap.size + 1 + 1 + 1 + 1) 39 i0 _ 2 24 Try.underlying24 hi hz0 hz1 hz2 rfl (by omega) (.slice (some ⟨X.heap.size, 0, none⟩) 0 0) 0 [] (by rfl) hO0 A n c (cellsM ms) (by rfl) (hR.out.toC.below hHeld.2.2.2.2.1.out) (cellsM_one ms) (by unfold maxLen; omega) (by omega) (by have := hHeld.2.2.2.2.2; omega) ?_
    intro v1 x1 hAp
    have hne : ∀ g, g ≠ X.heap.size → (Value.slice (some ⟨X.heap.size, 0, none⟩) 0 0).ownBlock ≠ some g := fun g hg e => by injection e with e; exact hg e.symm
    have hO1 : x1.ownsRow (w.heap.size + 1 + 1 + 1 + 1) 39 2 v1 n (cellsM ms) := by simpa using hAp.own
    have hs1 : X.heap.size + 1 ≤ x1.heap.size := by
      have := hAp.hsize
      rw [show ∀ w : World, w.drew.heap = w.heap from fun _ => rfl] at this
      simp only [World.size_alloc] at this
      omega
    have y0 : x1.cell? ⟨w.heap.size + 1 + 1, 0, none⟩ = some (.slice none 0 0) := hAp.cell (by first | exact cell_up z0 _ | exact cell_up (cell_up z0 _) _) (hne _ (by simp; omega))
    have y1 : x1.cell? ⟨w.heap.size + 1 + 1, 1, none⟩ = some (.int .i64 0) := hAp.cell (by first | exact cell_up z1 _ | exact cell_up (cell_up z1 _) _) (hne _ (by simp; omega))
    have yf0 : x1.frozen? ⟨w.heap.size + 1 + 1, 0, none⟩ = false := (hAp.frozen (by simp; omega) (hne _ (by simp; omega))).trans (by first | exact frozen_up f0 hX2 _ | exact frozen_up (frozen_up f0 hX2 _) (Nat.lt_of_lt_of_le hX2 (below_new X _).size) _)
    have yf1 : x1.frozen? ⟨w.heap.size + 1 + 1, 1, none⟩ = false := (hAp.frozen (by simp; omega) (hne _ (by simp; omega))).trans (by first | exact frozen_up f1 hX2 _ | exact frozen_up (frozen_up f1 hX2 _) (Nat.lt_of_lt_of_le hX2 (below_new X _).size) _)
    have b0 : x1.cell? ⟨X.heap.size + 1, 0, none⟩ = some (.int .u64 now) := hAp.cell (by go_simp) (hne _ (by simp))
    have b1 : x1.cell? ⟨X.heap.size + 1, 1, none⟩ = some (.string body) := hAp.cell (by go_simp) (hne _ (by simp))
    refine hK'.out _ _ ?_ (fun hHeld => ?_)
    · exact hHeld.app hAp hO0
    clear hK' K'
    try simp only [Act.put, List.setIfInBounds_toArray, List.set_cons_zero, List.set_cons_succ]
    refine wpAnyH_ready (rs := [6]) (by kernel_rfl) (by simp) ?_
    refine AllReadyH.cons (o := _) rfl (fun K' hK' => ?_) AllReadyH.nil
    have hY2 : w.heap.size + 1 + 1 < x1.heap.size := World.block_lt_of_cell? _ _ y0
    have hO2 : x1.ownsRow (w.heap.size + 1 + 1 + 1 + 1) 39 2 v1 n (cellsM ms) := hO1
    refine step_append_rd rfl (.tmp 43) (.tmp 45) 24 (by rfl) (w.heap.size + 1 + 1 + 1 + 1) 39 i0 _ 2 24 Try.underlying24 hi hz0 hz1 hz2 rfl (by omega) v1 n (cellsM ms) (by rfl) hO2 (some ⟨X.heap.size + 1, 0, none⟩) 1 1 [.int .u64 now, .string body] (by rfl) (rdC_one b0 b1) (one_msg _ _) (by unfold maxLen; omega) (by omega) (by have := hHeld.2.2.2.2.2; omega) ?_
    intro v2 x2 hAp2
    obtain ⟨g2, cap2, rfl, hg2⟩ := own_form hAp2.own
    have hne2 : ∀ g, g < (w.heap.size + 1 + 1 + 1 + 1) → v1.ownBlock ≠ some g := fun g hg e => by have := (hO2.lt g e).1; omega
    have q0 : x2.cell? ⟨w.heap.size + 1 + 1, 0, none⟩ = some (.slice none 0 0) := hAp2.cell (y0) (hne2 _ (by simp))
    have q1 : x2.cell? ⟨w.heap.size + 1 + 1, 1, none⟩ = some (.int .i64 0) := hAp2.cell (y1) (hne2 _ (by simp))
    have qf0 : x2.frozen? ⟨w.heap.size + 1 + 1, 0, none⟩ = false := (hAp2.frozen (by have := World.block_lt_of_cell? _ _ y0; simp at this ⊢ <;> omega) (hne2 _ (by simp))).trans (yf0)
    have qf1 : x2.frozen? ⟨w.heap.size + 1 + 1, 1, none⟩ = false := (hAp2.frozen (by have := World.block_lt_of_cell? _ _ y0; simp at this ⊢ <;> omega) (hne2 _ (by simp))).trans (yf1)
    have hOw := hide (show x2.ownsRow (w.heap.size + 1 + 1 + 1 + 1) 39 2 (.slice (some ⟨g2, 0, none⟩) (n + 1) cap2) (n + 1) (cellsM (ms ++ [(now, body)])) from by rw [cellsM_append]; exact hAp2.own)
    refine hK'.out _ _ ?_ (fun hHeld => ?_)
    · exact hHeld.app hAp2 hO2
    clear hK' K'
    try simp only [Act.put, List.setIfInBounds_toArray, List.set_cons_zero, List.set_cons_succ]
    clear hAp2 hO2 hne2
    refine wpAnyHN_take (i := 9) (oi := _) (some 49) (v := ?v8) rfl rfl (by kernel_rfl) (by kernel_rfl) (by kernel_rfl) (Or.inl ⟨by rfl, ?hy8⟩) hHeld ?rest8
    case hy8 =>
      intro w' hSw
      clear hSw
      go_simp
      try (with_reducible rfl)
    try simp only [Act.put, List.setIfInBounds_toArray, List.set_cons_zero, List.set_cons_succ]
    refine wpAnyH_ready (rs := [10]) (by kernel_rfl) (by simp) ?_
    refine AllReadyH.cons (o := _) rfl (fun K' hK' => ?_) AllReadyH.nil
    go_simp
    refine hK'.out _ _ ?_ (fun hHeld => ?_)
    · exact (hHeld.store 0 _).store 1 _
    clear hK' K'
    try simp only [Act.put, List.setIfInBounds_toArray, List.set_cons_zero, List.set_cons_succ]
    refine wpAnyHN_take (i := 11) (oi := _) (some 9) (v := ?v9) rfl rfl (by kernel_rfl) (by kernel_rfl) (by kernel_rfl) (Or.inl ⟨by rfl, ?hy9⟩) hHeld ?rest9
    case hy9 =>
      intro w' hSw
      clear hSw
      go_simp
      try (with_reducible rfl)
    try simp only [Act.put, List.setIfInBounds_toArray, List.set_cons_zero, List.set_cons_succ]
    refine wpAnyH_done (by kernel_rfl) ?_ _
    refine NoPanic.normal ?_
    have hBe := hHeld.2.2.2.2.1
    clear hHeld
    go_wp2
    refine bodyPost_ret (v := .tuple #[.agg #[.slice (some ⟨g2, 0, none⟩) (n + 1) cap2, .int .i64 lost], .int .i64 0]) (by simp [results, Try.results14, go_sem, q0, q1]) rfl ⟨_, _, rfl, ?_, hBe.out⟩
    have hh := Rd.of_own hOw.out
    exact (hh.setCell (fun b hb => by injection hb with hb; subst hb; simp <;> omega) _).setCell (fun b hb => by injection hb with hb; subst hb; simp <;> omega) _
  refine AllReadyH.cons (o := _) rfl (fun K' hK' => ?_) AllReadyH.nil
  go_simp
  refine hK'.out _ _ ?_ (fun hHeld => ?_)
  · exact hHeld.alloc _
  clear hK' K'
  try simp only [Act.put, List.setIfInBounds_toArray, List.set_cons_zero, List.set_cons_succ]
  refine wpAnyH_ready (rs := [0]) (by kernel_rfl) (by simp) ?_
  refine AllReadyH.cons (o := _) rfl (fun K' hK' => ?_) AllReadyH.nil
  go_simp
  refine hK'.out _ _ ?_ (fun hHeld => ?_)
  · exact hHeld.alloc _
  clear hK' K'
  try simp only [Act.put, List.setIfInBounds_toArray, List.set_cons_zero, List.set_cons_succ]
  refine wpAnyH_ready (rs := [3]) (by kernel_rfl) (by simp) ?_
  refine AllReadyH.cons (o := _) rfl (fun K' hK' => ?_) AllReadyH.nil
  have hO0 : ((X.drew.alloc (.cells #[.int .u64 now, .string body] 39)).alloc (.cells #[] 39)).ownsRow (w.heap.size + 1 + 1 + 1 + 1) 39 2 (.slice (some ⟨X.heap.size + 1, 0, none⟩) 0 0) 0 [] := (by have := World.ownsRow_made (base := (w.heap.size + 1 + 1 + 1 + 1)) (e := 39) (size := 2) (X.drew.alloc (.cells #[.int .u64 now, .string body] 39)) #[] 0 (by rw [World.size_alloc]; show _ ≤ X.heap.size + 1; omega) (by simp [maxLen]) (by simp); rw [World.size_alloc] at this; exact this)
  refine step_append_rd rfl (.tmp 40) (.tmp 42) 24 (by rfl) (w.heap.size + 1 + 1 + 1 + 1) 39 i0 _ 2 24 Try.underlying24 hi hz0 hz1 hz2 rfl (by omega) (.slice (some ⟨X.heap.size + 1, 0, none⟩) 0 0) 0 [] (by rfl) hO0 A n c (cellsM ms) (by rfl) (hR.out.toC.below hHeld.2.2.2.2.1.out) (cellsM_one ms) (by unfold maxLen; omega) (by omega) (by have := hHeld.2.2.2.2.2; omega) ?_
  intro v1 x1 hAp
  have hne : ∀ g, g ≠ X.heap.size + 1 → (Value.slice (some ⟨X.heap.size + 1, 0, none⟩) 0 0).ownBlock ≠ some g := fun g hg e => by injection e with e; exact hg e.symm
  have hO1 : x1.ownsRow (w.heap.size + 1 + 1 + 1 + 1) 39 2 v1 n (cellsM ms) := by simpa using hAp.own
  have hs1 : X.heap.size + 1 ≤ x1.heap.size := by
    have := hAp.hsize
    rw [show ∀ w : World, w.drew.heap = w.heap from fun _ => rfl] at this
    simp only [World.size_alloc] at this
    omega
  have y0 : x1.cell? ⟨w.heap.size + 1 + 1, 0, none⟩ = some (.slice none 0 0) := hAp.cell (by first | exact cell_up z0 _ | exact cell_up (cell_up z0 _) _) (hne _ (by simp; omega))
  have y1 : x1.cell? ⟨w.heap.size + 1 + 1, 1, none⟩ = some (.int .i64 0) := hAp.cell (by first | exact cell_up z1 _ | exact cell_up (cell_up z1 _) _) (hne _ (by simp; omega))
  have yf0 : x1.frozen? ⟨w.heap.size + 1 + 1, 0, none⟩ = false := (hAp.frozen (by simp; omega) (hne _ (by simp; omega))).trans (by first | exact frozen_up f0 hX2 _ | exact frozen_up (frozen_up f0 hX2 _) (Nat.lt_of_lt_of_le hX2 (below_new X _).size) _)
  have yf1 : x1.frozen? ⟨w.heap.size + 1 + 1, 1, none⟩ = false := (hAp.frozen (by simp; omega) (hne _ (by simp; omega))).trans (by first | exact frozen_up f1 hX2 _ | exact frozen_up (frozen_up f1 hX2 _) (Nat.lt_of_lt_of_le hX2 (below_new X _).size) _)
  have b0 : x1.cell? ⟨X.heap.size, 0, none⟩ = some (.int .u64 now) := hAp.cell (by go_simp) (hne _ (by simp))
  have b1 : x1.cell? ⟨X.heap.size, 1, none⟩ = some (.string body) := hAp.cell (by go_simp) (hne _ (by simp))
  refine hK'.out _ _ ?_ (fun hHeld => ?_)
  · exact hHeld.app hAp hO0
  clear hK' K'
  try simp only [Act.put, List.setIfInBounds_toArray, List.set_cons_zero, List.set_cons_succ]
  refine wpAnyH_ready (rs := [6]) (by kernel_rfl) (by simp) ?_
  refine AllReadyH.cons (o := _) rfl (fun K' hK' => ?_) AllReadyH.nil
  have hY2 : w.heap.size + 1 + 1 < x1.heap.size := World.block_lt_of_cell? _ _ y0
  have hO2 : x1.ownsRow (w.heap.size + 1 + 1 + 1 + 1) 39 2 v1 n (cellsM ms) := hO1
  refine step_append_rd rfl (.tmp 43) (.tmp 45) 24 (by rfl) (w.heap.size + 1 + 1 + 1 + 1) 39 i0 _ 2 24 Try.underlying24 hi hz0 hz1 hz2 rfl (by omega) v1 n (cellsM ms) (by rfl) hO2 (some ⟨X.heap.size, 0, none⟩) 1 1 [.int .u64 now, .string body] (by rfl) (rdC_one b0 b1) (one_msg _ _) (by unfold maxLen; omega) (by omega) (by have := hHeld.2.2.2.2.2; omega) ?_
  intro v2 x2 hAp2
  obtain ⟨g2, cap2, rfl, hg2⟩ := own_form hAp2.own
  have hne2 : ∀ g, g < (w.heap.size + 1 + 1 + 1 + 1) → v1.ownBlock ≠ some g := fun g hg e => by have := (hO2.lt g e).1; omega
  have q0 : x2.cell? ⟨w.heap.size + 1 + 1, 0, none⟩ = some (.slice none 0 0) := hAp2.cell (y0) (hne2 _ (by simp))
  have q1 : x2.cell? ⟨w.heap.size + 1 + 1, 1, none⟩ = some (.int .i64 0) := hAp2.cell (y1) (hne2 _ (by simp))
  have qf0 : x2.frozen? ⟨w.heap.size + 1 + 1, 0, none⟩ = false := (hAp2.frozen (by have := World.block_lt_of_cell? _ _ y0; simp at this ⊢ <;> omega) (hne2 _ (by simp))).trans (yf0)
  have qf1 : x2.frozen? ⟨w.heap.size + 1 + 1, 1, none⟩ = false := (hAp2.frozen (by have := World.block_lt_of_cell? _ _ y0; simp at this ⊢ <;> omega) (hne2 _ (by simp))).trans (yf1)
  have hOw := hide (show x2.ownsRow (w.heap.size + 1 + 1 + 1 + 1) 39 2 (.slice (some ⟨g2, 0, none⟩) (n + 1) cap2) (n + 1) (cellsM (ms ++ [(now, body)])) from by rw [cellsM_append]; exact hAp2.own)
  refine hK'.out _ _ ?_ (fun hHeld => ?_)
  · exact hHeld.app hAp2 hO2
  clear hK' K'
  try simp only [Act.put, List.setIfInBounds_toArray, List.set_cons_zero, List.set_cons_succ]
  clear hAp2 hO2 hne2
  refine wpAnyHN_take (i := 9) (oi := _) (some 49) (v := ?v10) rfl rfl (by kernel_rfl) (by kernel_rfl) (by kernel_rfl) (Or.inl ⟨by rfl, ?hy10⟩) hHeld ?rest10
  case hy10 =>
    intro w' hSw
    clear hSw
    go_simp
    try (with_reducible rfl)
  try simp only [Act.put, List.setIfInBounds_toArray, List.set_cons_zero, List.set_cons_succ]
  refine wpAnyH_ready (rs := [10]) (by kernel_rfl) (by simp) ?_
  refine AllReadyH.cons (o := _) rfl (fun K' hK' => ?_) AllReadyH.nil
  go_simp
  refine hK'.out _ _ ?_ (fun hHeld => ?_)
  · exact (hHeld.store 0 _).store 1 _
  clear hK' K'
  try simp only [Act.put, List.setIfInBounds_toArray, List.set_cons_zero, List.set_cons_succ]
  refine wpAnyHN_take (i := 11) (oi := _) (some 9) (v := ?v11) rfl rfl (by kernel_rfl) (by kernel_rfl) (by kernel_rfl) (Or.inl ⟨by rfl, ?hy11⟩) hHeld ?rest11
  case hy11 =>
    intro w' hSw
    clear hSw
    go_simp
    try (with_reducible rfl)
  try simp only [Act.put, List.setIfInBounds_toArray, List.set_cons_zero, List.set_cons_succ]
  refine wpAnyH_done (by kernel_rfl) ?_ _
  refine NoPanic.normal ?_
  have hBe := hHeld.2.2.2.2.1
  clear hHeld
  go_wp2
  refine bodyPost_ret (v := .tuple #[.agg #[.slice (some ⟨g2, 0, none⟩) (n + 1) cap2, .int .i64 lost], .int .i64 0]) (by simp [results, Try.results14, go_sem, q0, q1]) rfl ⟨_, _, rfl, ?_, hBe.out⟩
  have hh := Rd.of_own hOw.out
  exact (hh.setCell (fun b hb => by injection hb with hb; subst hb; simp <;> omega) _).setCell (fun b hb => by injection hb with hb; subst hb; simp <;> omega) _

end Go.Proofs.Ytepnfhjfjjdpkaa.Port
