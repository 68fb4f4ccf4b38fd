/-
  The walk of the reference's text: a number's text. Conditions: a number of at most 99999.
-/
import Derived.Test.YtijjamiidpikdaaDoorAsmLinePlain
import Derived.Test.YtijjamiidpikdaaDoorAsmFig
import Derived.Test.YtijjamiidpikdaaDoorRegionU
import Derived.Test.YtijjamiidpikdaaDoorRow
import Derived.RegionTactic
import Derived.Deep.RegionHeld3
namespace Go.Proofs.YtijjamiidpikdaaDoor.Asm
open Go.RowKit

theorem conv_when (x : Int) (h0 : 0 ≤ x) (h1 : x < 256) : ∀ (w : World) (b : Nat), w.cell? ⟨b, 0, none⟩ = some (.int .u8 x) →
    (convert 52 9 (.slice (some ⟨b, 0, none⟩) 1 1)).run Tryd.prog w = .ok (.string ⟨#[UInt8.ofNat x.toNat]⟩) w := fun w b hc => conv_one w b x h0 h1 hc

set_option maxHeartbeats 1600000 in
theorem rtext_nat (m : Nat) : ∀ (w : World), m ≤ 99999 →
    Calls Tryd.prog 27 #[.int .i64 m] w fun e w' => e = .returned (.string ⟨(figN m).toArray⟩) ∧ Below w.heap.size w w' := by
  induction m using Nat.strongRecOn with
  | ind m ih =>
    intro w hm
    have hm0 : (0 : Int) ≤ (m : Int) := Int.natCast_nonneg _
    have hmb : (m : Int) ≤ 99999 := by omega
    by_cases h10 : (m : Int) < 10
    · have hcv := conv_when (48 + (m : Int)) (by omega) (by omega)
      have hF : Hid (figN m = [UInt8.ofNat (48 + (m : Int)).toNat]) := by
        show _ = _
        rw [figN_step, show m / 10 = 0 by omega, dg_zero, List.nil_append]
        congr 2
        omega
      clear ih
      generalize UInt8.ofNat (48 + (m : Int)).toNat = c at hcv hF
      go_enter Tryd.func27, Tryd.ntmps27
      go_wp2
      go_ret
      exact ⟨by rw [hF.out]; rfl, below_new _ _⟩
    · have hcv := conv_when (48 + (m : Int) % 10) (by omega) (by omega)
      have IH := hide (ih (m / 10) (by omega))
      clear ih
      have hF : Hid (figN m = figN (m / 10) ++ [UInt8.ofNat (48 + (m : Int) % 10).toNat]) := by
        show _ = _
        rw [figN_step]
        unfold figN
        rw [if_neg (by omega)]
        congr 3
        all_goals omega
      have hl := figN_len5 (m := m / 10) (by omega)
      have hl6 : ¬ 9223372036854775807 < (figN (m / 10)).length + 1 := by omega
      have hw1 : IntKind.i64.wrap ((m : Int) / 10) = ((m / 10 : Nat) : Int) := by rw [IntWalk.i64_in _ (by omega)]; omega
      have ht : (m : Int).tmod 10 = (m : Int) % 10 := Int.tmod_eq_emod_of_nonneg hm0
      have hw2 : IntKind.u8.wrap ((m : Int) % 10) = (m : Int) % 10 := by rw [IntKind.wrap_u8']; omega
      have hw3 : IntKind.u8.wrap (48 + (m : Int) % 10) = 48 + (m : Int) % 10 := by rw [IntKind.wrap_u8']; omega
      generalize UInt8.ofNat (48 + (m : Int) % 10).toNat = c at hcv hF
      go_enter Tryd.func27, Tryd.ntmps27
      go_wp2_with fail
      refine wp_region_noPanic ?_
      refine wp_region_held_drew (S := fun w' => Hid (Below w.heap.size w w')) (by kernel_rfl) (keep_drew _) (fun hHeld => ?_)
      refine wpAnyHN_take (i := 0) (oi := _) (some 16) (v := ?v1) rfl rfl (by kernel_rfl) (by kernel_rfl) (by kernel_rfl) (Or.inl ⟨by rfl, ?hy1⟩) hHeld ?rest1
      case hy1 =>
        intro w' hSw
        clear hSw
        go_simp
        try (with_reducible rfl)
      try simp only [Act.put, List.setIfInBounds_toArray, List.set_cons_zero, List.set_cons_succ]
      refine wpAnyHN_take (i := 1) (oi := _) (some 17) (v := ?v2) rfl rfl (by kernel_rfl) (by kernel_rfl) (by kernel_rfl) (Or.inl ⟨by rfl, ?hy2⟩) hHeld ?rest2
      case hy2 =>
        intro w' hSw
        clear hSw
        go_simp
        try (with_reducible rfl)
      try simp only [Act.put, List.setIfInBounds_toArray, List.set_cons_zero, List.set_cons_succ]
      refine wpAnyHN_take (i := 3) (oi := _) (some 19) (v := ?v3) rfl rfl (by kernel_rfl) (by kernel_rfl) (by kernel_rfl) (Or.inl ⟨by rfl, ?hy3⟩) hHeld ?rest3
      case hy3 =>
        intro w' hSw
        clear hSw
        go_simp
        try (with_reducible rfl)
      try simp only [Act.put, List.setIfInBounds_toArray, List.set_cons_zero, List.set_cons_succ]
      refine wpAnyHN_take (i := 4) (oi := _) (some 20) (v := ?v4) rfl rfl (by kernel_rfl) (by kernel_rfl) (by kernel_rfl) (Or.inl ⟨by rfl, ?hy4⟩) hHeld ?rest4
      case hy4 =>
        intro w' hSw
        clear hSw
        go_simp
        try (with_reducible rfl)
      try simp only [Act.put, List.setIfInBounds_toArray, List.set_cons_zero, List.set_cons_succ]
      refine wpAnyHN_take (i := 5) (oi := _) (some 21) (v := ?v5) rfl rfl (by kernel_rfl) (by kernel_rfl) (by kernel_rfl) (Or.inl ⟨by rfl, ?hy5⟩) hHeld ?rest5
      case hy5 =>
        intro w' hSw
        clear hSw
        go_simp
        try (with_reducible rfl)
      try simp only [Act.put, List.setIfInBounds_toArray, List.set_cons_zero, List.set_cons_succ]
      refine wpAnyHN_take (i := 6) (oi := _) (some 22) (v := ?v6) rfl rfl (by kernel_rfl) (by kernel_rfl) (by kernel_rfl) (Or.inl ⟨by rfl, ?hy6⟩) hHeld ?rest6
      case hy6 =>
        intro w' hSw
        clear hSw
        go_simp
        try (with_reducible rfl)
      try simp only [Act.put, List.setIfInBounds_toArray, List.set_cons_zero, List.set_cons_succ]
      refine wpAnyH_ready (rs := [2, 7]) (by kernel_rfl) (by simp) ?_
      refine AllReadyH.cons (o := _) rfl (fun K' hK' => ?_) ?_
      · go_simp
        refine (IH.out _ (by omega)).mono ?_
        rintro e x1 ⟨rfl, hb⟩
        have hq := keep_call hHeld hb
        have hsz : w.heap.size ≤ x1.heap.size := hq.out.size
        obtain ⟨hcx, hfx⟩ := bcell hb
        clear hb
        go_simp
        refine hK'.out _ _ ?_ (fun hHeld => ?_)
        · repeat (first | (with_reducible exact hHeld) | (with_reducible exact hq) | (with_reducible exact keep_refl _) | (with_reducible refine keep_drew2 ?_) | (with_reducible refine keep_set ?_ (by have := hHeld.out.size; simp at this ⊢ <;> omega) _) | (with_reducible refine keep_alloc ?_ _))
        clear hK' K'
        try simp only [Act.put, List.setIfInBounds_toArray, List.set_cons_zero, List.set_cons_succ]
        refine wpAnyH_ready (rs := [7]) (by kernel_rfl) (by simp) ?_
        refine AllReadyH.cons (o := _) rfl (fun K' hK' => ?_) AllReadyH.nil
        go_simp
        refine hK'.out _ _ ?_ (fun hHeld => ?_)
        · repeat (first | (with_reducible exact hHeld) | (with_reducible exact hq) | (with_reducible exact keep_refl _) | (with_reducible refine keep_drew2 ?_) | (with_reducible refine keep_set ?_ (by have := hHeld.out.size; simp at this ⊢ <;> omega) _) | (with_reducible refine keep_alloc ?_ _))
        clear hK' K'
        try simp only [Act.put, List.setIfInBounds_toArray, List.set_cons_zero, List.set_cons_succ]
        refine wpAnyH_ready (rs := [8]) (by kernel_rfl) (by simp) ?_
        refine AllReadyH.cons (o := _) rfl (fun K' hK' => ?_) AllReadyH.nil
        go_simp
        refine hK'.out _ _ ?_ (fun hHeld => ?_)
        · repeat (first | (with_reducible exact hHeld) | (with_reducible exact hq) | (with_reducible exact keep_refl _) | (with_reducible refine keep_drew2 ?_) | (with_reducible refine keep_set ?_ (by have := hHeld.out.size; simp at this ⊢ <;> omega) _) | (with_reducible refine keep_alloc ?_ _))
        clear hK' K'
        try simp only [Act.put, List.setIfInBounds_toArray, List.set_cons_zero, List.set_cons_succ]
        refine wpAnyHN_take (i := 9) (oi := _) (some 25) (v := ?v7) rfl rfl (by kernel_rfl) (by kernel_rfl) (by kernel_rfl) (Or.inl ⟨by rfl, ?hy7⟩) hHeld ?rest7
        case hy7 =>
          intro w' hSw
          clear hSw
          go_simp
          try (with_reducible rfl)
        try simp only [Act.put, List.setIfInBounds_toArray, List.set_cons_zero, List.set_cons_succ]
        refine wpAnyHN_take (i := 10) (oi := _) (some 2) (v := ?v8) rfl rfl (by kernel_rfl) (by kernel_rfl) (by kernel_rfl) (Or.inl ⟨by rfl, ?hy8⟩) hHeld ?rest8
        case hy8 =>
          intro w' hSw
          clear hSw
          go_simp
          try (with_reducible rfl)
        try simp only [Act.put, List.setIfInBounds_toArray, List.set_cons_zero, List.set_cons_succ]
        refine wpAnyH_done (by kernel_rfl) ?_ _
        refine NoPanic.normal ?_
        go_wp2
        go_ret
        exact ⟨by rw [hF.out, ← str_app]; rfl, hHeld.out⟩
      refine AllReadyH.cons (o := _) rfl (fun K' hK' => ?_) AllReadyH.nil
      go_simp
      refine hK'.out _ _ ?_ (fun hHeld => ?_)
      · repeat (first | (with_reducible exact hHeld) | (with_reducible exact hq) | (with_reducible exact keep_refl _) | (with_reducible refine keep_drew2 ?_) | (with_reducible refine keep_set ?_ (by have := hHeld.out.size; simp at this ⊢ <;> omega) _) | (with_reducible refine keep_alloc ?_ _))
      clear hK' K'
      try simp only [Act.put, List.setIfInBounds_toArray, List.set_cons_zero, List.set_cons_succ]
      refine wpAnyH_ready (rs := [2, 8]) (by kernel_rfl) (by simp) ?_
      refine AllReadyH.cons (o := _) rfl (fun K' hK' => ?_) ?_
      · go_simp
        refine (IH.out _ (by omega)).mono ?_
        rintro e x1 ⟨rfl, hb⟩
        have hq := keep_call hHeld hb
        have hsz : w.heap.size ≤ x1.heap.size := hq.out.size
        obtain ⟨hcx, hfx⟩ := bcell hb
        clear hb
        go_simp
        refine hK'.out _ _ ?_ (fun hHeld => ?_)
        · repeat (first | (with_reducible exact hHeld) | (with_reducible exact hq) | (with_reducible exact keep_refl _) | (with_reducible refine keep_drew2 ?_) | (with_reducible refine keep_set ?_ (by have := hHeld.out.size; simp at this ⊢ <;> omega) _) | (with_reducible refine keep_alloc ?_ _))
        clear hK' K'
        try simp only [Act.put, List.setIfInBounds_toArray, List.set_cons_zero, List.set_cons_succ]
        refine wpAnyH_ready (rs := [8]) (by kernel_rfl) (by simp) ?_
        refine AllReadyH.cons (o := _) rfl (fun K' hK' => ?_) AllReadyH.nil
        go_simp
        refine hK'.out _ _ ?_ (fun hHeld => ?_)
        · repeat (first | (with_reducible exact hHeld) | (with_reducible exact hq) | (with_reducible exact keep_refl _) | (with_reducible refine keep_drew2 ?_) | (with_reducible refine keep_set ?_ (by have := hHeld.out.size; simp at this ⊢ <;> omega) _) | (with_reducible refine keep_alloc ?_ _))
        clear hK' K'
        try simp only [Act.put, List.setIfInBounds_toArray, List.set_cons_zero, List.set_cons_succ]
        refine wpAnyHN_take (i := 9) (oi := _) (some 25) (v := ?v9) rfl rfl (by kernel_rfl) (by kernel_rfl) (by kernel_rfl) (Or.inl ⟨by rfl, ?hy9⟩) hHeld ?rest9
        case hy9 =>
          intro w' hSw
          clear hSw
          go_simp
          try (with_reducible rfl)
        try simp only [Act.put, List.setIfInBounds_toArray, List.set_cons_zero, List.set_cons_succ]
        refine wpAnyHN_take (i := 10) (oi := _) (some 2) (v := ?v10) rfl rfl (by kernel_rfl) (by kernel_rfl) (by kernel_rfl) (Or.inl ⟨by rfl, ?hy10⟩) hHeld ?rest10
        case hy10 =>
          intro w' hSw
          clear hSw
          go_simp
          try (with_reducible rfl)
        try simp only [Act.put, List.setIfInBounds_toArray, List.set_cons_zero, List.set_cons_succ]
        refine wpAnyH_done (by kernel_rfl) ?_ _
        refine NoPanic.normal ?_
        go_wp2
        go_ret
        exact ⟨by rw [hF.out, ← str_app]; rfl, hHeld.out⟩
      refine AllReadyH.cons (o := _) rfl (fun K' hK' => ?_) AllReadyH.nil
      go_simp
      refine hK'.out _ _ ?_ (fun hHeld => ?_)
      · repeat (first | (with_reducible exact hHeld) | (with_reducible exact hq) | (with_reducible exact keep_refl _) | (with_reducible refine keep_drew2 ?_) | (with_reducible refine keep_set ?_ (by have := hHeld.out.size; simp at this ⊢ <;> omega) _) | (with_reducible refine keep_alloc ?_ _))
      clear hK' K'
      try simp only [Act.put, List.setIfInBounds_toArray, List.set_cons_zero, List.set_cons_succ]
      refine wpAnyH_ready (rs := [2]) (by kernel_rfl) (by simp) ?_
      refine AllReadyH.cons (o := _) rfl (fun K' hK' => ?_) AllReadyH.nil
      go_simp
      refine (IH.out _ (by omega)).mono ?_
      rintro e x1 ⟨rfl, hb⟩
      have hq := keep_call hHeld hb
      have hsz : w.heap.size ≤ x1.heap.size := hq.out.size
      obtain ⟨hcx, hfx⟩ := bcell hb
      clear hb
      go_simp
      refine hK'.out _ _ ?_ (fun hHeld => ?_)
      · repeat (first | (with_reducible exact hHeld) | (with_reducible exact hq) | (with_reducible exact keep_refl _) | (with_reducible refine keep_drew2 ?_) | (with_reducible refine keep_set ?_ (by have := hHeld.out.size; simp at this ⊢ <;> omega) _) | (with_reducible refine keep_alloc ?_ _))
      clear hK' K'
      try simp only [Act.put, List.setIfInBounds_toArray, List.set_cons_zero, List.set_cons_succ]
      refine wpAnyHN_take (i := 9) (oi := _) (some 25) (v := ?v11) rfl rfl (by kernel_rfl) (by kernel_rfl) (by kernel_rfl) (Or.inl ⟨by rfl, ?hy11⟩) hHeld ?rest11
      case hy11 =>
        intro w' hSw
        clear hSw
        go_simp
        try (with_reducible rfl)
      try simp only [Act.put, List.setIfInBounds_toArray, List.set_cons_zero, List.set_cons_succ]
      refine wpAnyHN_take (i := 10) (oi := _) (some 2) (v := ?v12) rfl rfl (by kernel_rfl) (by kernel_rfl) (by kernel_rfl) (Or.inl ⟨by rfl, ?hy12⟩) hHeld ?rest12
      case hy12 =>
        intro w' hSw
        clear hSw
        go_simp
        try (with_reducible rfl)
      try simp only [Act.put, List.setIfInBounds_toArray, List.set_cons_zero, List.set_cons_succ]
      refine wpAnyH_done (by kernel_rfl) ?_ _
      refine NoPanic.normal ?_
      go_wp2
      go_ret
      exact ⟨by rw [hF.out, ← str_app]; rfl, hHeld.out⟩

end Go.Proofs.YtijjamiidpikdaaDoor.Asm
