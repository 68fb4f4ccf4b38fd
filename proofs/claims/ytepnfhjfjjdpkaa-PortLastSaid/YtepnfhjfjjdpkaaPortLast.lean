/-
  The walk of PortLast: a sample is the last one that was sent, as often as it is taken. Conditions: none.
-/
import Derived.Test.YtepnfhjfjjdpkaaPortShown
import Derived.Test.YtepnfhjfjjdpkaaPortAny
import Derived.Test.YtepnfhjfjjdpkaaPortActs0
import Derived.Test.YtepnfhjfjjdpkaaRow
import Derived.Deep.RegionHeld3
import Derived.LoopTactic
import Derived.Deep.LoopGhost
import Derived.Outline
import Derived.IntWalk
namespace Go.Proofs.Ytepnfhjfjjdpkaa.Port
open Go.RowKit

/-- what waits in a sample's box -/
def lastL (has : Bool) (t : Int) (s : ByteArray) : List Msg := if has = true then [(t, s)] else []

set_option maxRecDepth 4000 in
set_option maxHeartbeats 4000000 in
theorem last_walk (size : Int) (L : Option Addr) (n c : Nat) (f : Nat → Bool × Int × ByteArray) (w : World) (hL : Acts w L n c f) :
    Calls Try.prog 5 #[.int .i64 size, .slice L n c] w fun e w' => e = .returned (.bool true) ∧ Below w.heap.size w w' := by
  have hnc := hL.1
  have hcm : c ≤ 9223372036854775807 := hL.2.1
  have hL' := hide hL
  clear hL
  go_enter Try.func5, Try.ntmps5
  go_wp2_with fail
  refine (shown_any _).mono ?_
  rintro e w1 ⟨rfl, hb1⟩
  have hB1 := hide hb1
  have hs1 := hb1.size
  clear hb1
  go_wp2
  have hS : LS w1.heap.size size none 0 0 0 .empty (((w1.alloc (.cells #[.int .i64 1, .int .i64 0, .int .i64 1, .int .i64 size, .int .i64 1] 23)).alloc (.cells #[.slice none 0 0, .int .i64 0] 26)).alloc (.cells #[.int .u64 0, .string .empty] 39)) := by
    refine ⟨?_, ?_, ?_, ?_, ?_, ?_, ?_, ?_, ?_, ?_, ?_, ?_, ?_⟩
    all_goals go_simp
  have hB2 : Below w.heap.size w (((w1.alloc (.cells #[.int .i64 1, .int .i64 0, .int .i64 1, .int .i64 size, .int .i64 1] 23)).alloc (.cells #[.slice none 0 0, .int .i64 0] 26)).alloc (.cells #[.int .u64 0, .string .empty] 39)) :=
    ((hB1.out.alloc (by omega) _).alloc (by simp; omega) _).alloc (by simp; omega) _
  go_loopw [9, 10] (fun h i wr => ∃ (k : Nat) (has : Bool) (A : Option Addr) (m d : Nat) (t : Int) (s : ByteArray), k ≤ n ∧ k ≤ 300 ∧ i = .int .i64 k ∧ h = .bool has ∧ Hid (∀ b, A = some b → w1.heap.size + 1 + 1 < b.block ∧ b.block < wr.heap.size) ∧ Hid (Rd wr A m d (lastL has t s)) ∧ Hid (LS w1.heap.size size A m d t s wr) ∧ Hid (Below w.heap.size w wr)) (fun _ i _ => n - (intOf i).toNat)
  case atStart => exact ⟨0, false, none, 0, 0, 0, .empty, Nat.zero_le _, Nat.zero_le _, rfl, rfl, (fun b hb => by cases hb), Rd.nil _, hS, hB2⟩
  case round =>
    obtain ⟨k, has, A, m, d, t, s, hk, hk3, rfl, rfl, hF, hR, hS', hB⟩ := hrel
    clear hS hB2
    by_cases hlt : k < n
    · by_cases h300 : k < 300
      · have hk1 : (k : Int) < (n : Int) := by omega
        have hk2 : (k : Int) < 300 := by omega
        have hk0 : (0 : Int) ≤ (k : Int) := Int.natCast_nonneg _
        obtain ⟨b, o, rfl, hbl, a0, a1, a2, hm⟩ := (hL'.out.below hB.out).at_ hlt
        generalize hfk : f k = fk at a0 a1 a2 hm
        obtain ⟨sends, now, body⟩ := fk
        simp only at a0 a1 a2 hm
        cases sends
        · cases has
          · obtain ⟨c0, c1, c2, c3, c4, b0, b1, l0, l1, f0, f1, f2, f3⟩ := hS'.out
            go_wp2_with fail
            obtain rfl : m = 0 := hR.out.1.symm
            refine (take_none 1 0 1 size 1 0 A d _).mono ?_
            rintro e x1 ⟨rfl, hb⟩
            have hS2 := hS'.out.below hb
            have hR' := hide (hR.out.below hb)
            have hBX := hide (hB.out.trans (hb.mono hB.out.size))
            have hsz : wr.heap.size ≤ x1.heap.size := hb.size
            have hsw := hB1.out.size
            have hF' : Hid (∀ q, A = some q → w1.heap.size + 1 + 1 < q.block ∧ q.block < x1.heap.size) := hide (fun q hq' => ⟨(hF.out q hq').1, Nat.lt_of_lt_of_le (hF.out q hq').2 hsz⟩)
            clear hb hS' hB hR hF c0 c1 c2 c3 c4 b0 b1 l0 l1 f0 f1 f2 f3 a0 a1 a2
            obtain ⟨c0, c1, c2, c3, c4, b0, b1, l0, l1, f0, f1, f2, f3⟩ := hS2
            have q0 : w1.heap.size < x1.heap.size := World.block_lt_of_cell? _ _ c0
            have q1 : w1.heap.size + 1 < x1.heap.size := World.block_lt_of_cell? _ _ b0
            have q2 : w1.heap.size + 1 + 1 < x1.heap.size := World.block_lt_of_cell? _ _ l0
            go_wp2
            go_roundw
            case rel =>
              refine ⟨k + 1, false, A, 0, d, t, s, by omega, by omega, by go_num, rfl, hide (fun q hq' => ⟨(hF'.out q hq').1, ?_⟩), hide ?_, hide ?_, hide ?_⟩
              · have := (hF'.out q hq').2
                first | (simp; done) | (simp; omega) | (simp [World.drew]; omega)
              · repeat (first | (with_reducible exact hR'.out) | (with_reducible refine Rd.drew ?_) | (with_reducible refine Rd.alloc ?_ _) | (with_reducible refine Rd.setCell ?_ (fun q hq' => by have := (hF'.out q hq').1; simp <;> omega) _) | (exact hR'.out))
              · refine ⟨?_, ?_, ?_, ?_, ?_, ?_, ?_, ?_, ?_, ?_, ?_, ?_, ?_⟩
                all_goals go_simp
              · repeat (first | (with_reducible exact hBX.out) | (with_reducible refine Below.drew ?_) | (with_reducible refine Below.alloc ?_ (by simp <;> omega) _) | (with_reducible refine Below.setCell ?_ (by simp <;> omega) _))
            case measure => simp [intOf]; omega
          · obtain ⟨c0, c1, c2, c3, c4, b0, b1, l0, l1, f0, f1, f2, f3⟩ := hS'.out
            go_wp2_with fail
            refine (take_sample 0 1 size 1 0 A m d (t, s) [] _ (by exact hR.out)).mono ?_
            rintro e x1 ⟨rfl, hb⟩
            have hS2 := hS'.out.below hb
            have hR' := hide (hR.out.below hb)
            have hBX := hide (hB.out.trans (hb.mono hB.out.size))
            have hsz : wr.heap.size ≤ x1.heap.size := hb.size
            have hsw := hB1.out.size
            have hF' : Hid (∀ q, A = some q → w1.heap.size + 1 + 1 < q.block ∧ q.block < x1.heap.size) := hide (fun q hq' => ⟨(hF.out q hq').1, Nat.lt_of_lt_of_le (hF.out q hq').2 hsz⟩)
            clear hb hS' hB hR hF c0 c1 c2 c3 c4 b0 b1 l0 l1 f0 f1 f2 f3 a0 a1 a2
            obtain ⟨c0, c1, c2, c3, c4, b0, b1, l0, l1, f0, f1, f2, f3⟩ := hS2
            have q0 : w1.heap.size < x1.heap.size := World.block_lt_of_cell? _ _ c0
            have q1 : w1.heap.size + 1 < x1.heap.size := World.block_lt_of_cell? _ _ b0
            have q2 : w1.heap.size + 1 + 1 < x1.heap.size := World.block_lt_of_cell? _ _ l0
            go_wp2
            go_roundw
            case rel =>
              refine ⟨k + 1, true, A, m, d, t, s, by omega, by omega, by go_num, rfl, hide (fun q hq' => ⟨(hF'.out q hq').1, ?_⟩), hide ?_, hide ?_, hide ?_⟩
              · have := (hF'.out q hq').2
                first | (simp; done) | (simp; omega) | (simp [World.drew]; omega)
              · repeat (first | (with_reducible exact hR'.out) | (with_reducible refine Rd.drew ?_) | (with_reducible refine Rd.alloc ?_ _) | (with_reducible refine Rd.setCell ?_ (fun q hq' => by have := (hF'.out q hq').1; simp <;> omega) _) | (exact hR'.out))
              · refine ⟨?_, ?_, ?_, ?_, ?_, ?_, ?_, ?_, ?_, ?_, ?_, ?_, ?_⟩
                all_goals go_simp
              · repeat (first | (with_reducible exact hBX.out) | (with_reducible refine Below.drew ?_) | (with_reducible refine Below.alloc ?_ (by simp <;> omega) _) | (with_reducible refine Below.setCell ?_ (by simp <;> omega) _))
            case measure => simp [intOf]; omega
        · go_wp2_with fail
          by_cases hz : size < (body.size : Int)
          · refine wp_region_noPanic ?_
            refine wp_region_held_drew (S := fun w' => Hid (Below wr.heap.size wr w')) (by kernel_rfl) (keep_drew _) (fun hHeld => ?_)
            refine wpAnyH_take (i := 0) (oi := _) (v := ?v1) rfl (by kernel_rfl) (by kernel_rfl) (by kernel_rfl) (fun _ _ _ h => h) (Or.inl ⟨by rfl, ?hy1⟩) hHeld ?rest1
            case hy1 =>
              intro w' hSw
              obtain ⟨c0, c1, c2, c3, c4, -, -, -, -, -⟩ := hS'.out.below hSw.out
              clear hSw
              go_simp
              try (with_reducible rfl)
            try simp only [Act.put, List.setIfInBounds_toArray]
            refine wpAnyH_take (i := 1) (oi := _) (v := ?v2) rfl (by kernel_rfl) (by kernel_rfl) (by kernel_rfl) (fun _ _ _ h => h) (Or.inl ⟨by rfl, ?hy2⟩) hHeld ?rest2
            case hy2 =>
              intro w' hSw
              obtain ⟨-, -, -, -, -, b0, b1, -, -, -⟩ := hS'.out.below hSw.out
              clear hSw
              go_simp
              try (with_reducible rfl)
            try simp only [Act.put]
            refine wpAnyH_take (i := 2) (oi := _) (v := ?v3) rfl (by kernel_rfl) (by kernel_rfl) (by kernel_rfl) (fun _ _ _ h => h) (Or.inl ⟨by rfl, ?hy3⟩) hHeld ?rest3
            case hy3 =>
              intro w' hSw
              clear hSw
              go_simp
              try (with_reducible rfl)
            try simp only [Act.put]
            refine wpAnyH_take (i := 3) (oi := _) (v := ?v4) rfl (by kernel_rfl) (by kernel_rfl) (by kernel_rfl) (fun _ _ _ h => h) (Or.inl ⟨by rfl, ?hy4⟩) hHeld ?rest4
            case hy4 =>
              intro w' hSw
              clear hSw
              go_simp
              try (with_reducible rfl)
            try simp only [Act.put]
            refine wpAnyH_take (i := 4) (oi := _) (v := ?v5) rfl (by kernel_rfl) (by kernel_rfl) (by kernel_rfl) (fun _ _ _ h => h) (Or.inl ⟨by rfl, ?hy5⟩) hHeld ?rest5
            case hy5 =>
              intro w' hSw
              clear hSw
              go_simp
              try (with_reducible rfl)
            try simp only [Act.put]
            refine wpAnyH_take (i := 5) (oi := _) (v := ?v6) rfl (by kernel_rfl) (by kernel_rfl) (by kernel_rfl) (fun _ _ _ h => h) (Or.inl ⟨by rfl, ?hy6⟩) hHeld ?rest6
            case hy6 =>
              intro w' hSw
              clear hSw
              go_simp
              try (with_reducible rfl)
            try simp only [Act.put]
            refine wpAnyH_take (i := 6) (oi := _) (v := ?v7) rfl (by kernel_rfl) (by kernel_rfl) (by kernel_rfl) (fun _ _ _ h => h) (Or.inl ⟨by rfl, ?hy7⟩) hHeld ?rest7
            case hy7 =>
              intro w' hSw
              have a1' := (hSw.out.cell hbl).trans a1
              clear hSw
              go_simp
              try (with_reducible rfl)
            try simp only [Act.put]
            refine wpAnyH_take (i := 7) (oi := _) (v := ?v8) rfl (by kernel_rfl) (by kernel_rfl) (by kernel_rfl) (fun _ _ _ h => h) (Or.inl ⟨by rfl, ?hy8⟩) hHeld ?rest8
            case hy8 =>
              intro w' hSw
              clear hSw
              go_simp
              try (with_reducible rfl)
            try simp only [Act.put]
            refine wpAnyH_take (i := 8) (oi := _) (v := ?v9) rfl (by kernel_rfl) (by kernel_rfl) (by kernel_rfl) (fun _ _ _ h => h) (Or.inl ⟨by rfl, ?hy9⟩) hHeld ?rest9
            case hy9 =>
              intro w' hSw
              clear hSw
              go_simp
              try (with_reducible rfl)
            try simp only [Act.put]
            refine wpAnyH_take (i := 9) (oi := _) (v := ?v10) rfl (by kernel_rfl) (by kernel_rfl) (by kernel_rfl) (fun _ _ _ h => h) (Or.inl ⟨by rfl, ?hy10⟩) hHeld ?rest10
            case hy10 =>
              intro w' hSw
              clear hSw
              go_simp
              try (with_reducible rfl)
            try simp only [Act.put]
            refine wpAnyH_take (i := 10) (oi := _) (v := ?v11) rfl (by kernel_rfl) (by kernel_rfl) (by kernel_rfl) (fun _ _ _ h => h) (Or.inl ⟨by rfl, ?hy11⟩) hHeld ?rest11
            case hy11 =>
              intro w' hSw
              clear hSw
              go_simp
              try (with_reducible rfl)
            try simp only [Act.put]
            refine wpAnyH_take (i := 11) (oi := _) (v := ?v12) rfl (by kernel_rfl) (by kernel_rfl) (by kernel_rfl) (fun _ _ _ h => h) (Or.inl ⟨by rfl, ?hy12⟩) hHeld ?rest12
            case hy12 =>
              intro w' hSw
              have a2' := (hSw.out.cell hbl).trans a2
              clear hSw
              go_simp
              try (with_reducible rfl)
            try simp only [Act.put]
            refine wpAnyH_ready (rs := [12, 16]) (by kernel_rfl) (by simp) ?_
            refine AllReadyH.cons (o := _) rfl (fun K hK => ?_) ?_
            · go_simp
              refine (send_big 1 0 1 size 1 0 now A m d body _ hm (by omega)).mono ?_
              rintro e x1 ⟨rfl, hb⟩
              have hq := keep_call hHeld hb
              have hsz : wr.heap.size ≤ x1.heap.size := hq.out.size
              obtain ⟨hcx, hfx⟩ := bcell hb
              clear hb
              go_simp
              refine hK.out _ _ ?_ (fun hHeld => ?_)
              · repeat (first | (with_reducible exact hHeld) | (with_reducible exact hq) | (with_reducible exact keep_refl _) | (with_reducible refine keep_drew2 ?_) | (with_reducible refine keep_set ?_ (by have := hHeld.out.size; simp at this ⊢ <;> omega) _) | (with_reducible refine keep_alloc ?_ _))
              clear hK K
              try simp only [Act.put, List.setIfInBounds_toArray, List.set_cons_zero, List.set_cons_succ]
              refine wpAnyH_take (i := 13) (oi := _) (v := ?v13) rfl (by kernel_rfl) (by kernel_rfl) (by kernel_rfl) (fun _ _ _ h => h) (Or.inl ⟨by rfl, ?hy13⟩) hHeld ?rest13
              case hy13 =>
                intro w' hSw
                clear hSw
                go_simp
                try (with_reducible rfl)
              try simp only [Act.put, List.setIfInBounds_toArray]
              refine wpAnyH_take (i := 14) (oi := _) (v := ?v14) rfl (by kernel_rfl) (by kernel_rfl) (by kernel_rfl) (fun _ _ _ h => h) (Or.inl ⟨by rfl, ?hy14⟩) hHeld ?rest14
              case hy14 =>
                intro w' hSw
                clear hSw
                go_simp
                try (with_reducible rfl)
              try simp only [Act.put]
              refine wpAnyH_take (i := 15) (oi := _) (v := ?v15) rfl (by kernel_rfl) (by kernel_rfl) (by kernel_rfl) (fun _ _ _ h => h) (Or.inl ⟨by rfl, ?hy15⟩) hHeld ?rest15
              case hy15 =>
                intro w' hSw
                clear hSw
                go_simp
                try (with_reducible rfl)
              try simp only [Act.put]
              refine wpAnyH_ready (rs := [16]) (by kernel_rfl) (by simp) ?_
              refine AllReadyH.cons (o := _) rfl (fun K hK => ?_) AllReadyH.nil
              go_simp
              refine hK.out _ _ ?_ (fun hHeld => ?_)
              · repeat (first | (with_reducible exact hHeld) | (with_reducible exact hq) | (with_reducible exact keep_refl _) | (with_reducible refine keep_drew2 ?_) | (with_reducible refine keep_set ?_ (by have := hHeld.out.size; simp at this ⊢ <;> omega) _) | (with_reducible refine keep_alloc ?_ _))
              clear hK K
              try simp only [Act.put, List.setIfInBounds_toArray, List.set_cons_zero, List.set_cons_succ]
              refine wpAnyH_ready (rs := [17]) (by kernel_rfl) (by simp) ?_
              refine AllReadyH.cons (o := _) rfl (fun K hK => ?_) AllReadyH.nil
              go_simp
              refine hK.out _ _ ?_ (fun hHeld => ?_)
              · repeat (first | (with_reducible exact hHeld) | (with_reducible exact hq) | (with_reducible exact keep_refl _) | (with_reducible refine keep_drew2 ?_) | (with_reducible refine keep_set ?_ (by have := hHeld.out.size; simp at this ⊢ <;> omega) _) | (with_reducible refine keep_alloc ?_ _))
              clear hK K
              try simp only [Act.put, List.setIfInBounds_toArray, List.set_cons_zero, List.set_cons_succ]
              refine wpAnyH_take (i := 18) (oi := _) (v := ?v16) rfl (by kernel_rfl) (by kernel_rfl) (by kernel_rfl) (fun _ _ _ h => h) (Or.inl ⟨by rfl, ?hy16⟩) hHeld ?rest16
              case hy16 =>
                intro w' hSw
                clear hSw
                go_simp
                try (with_reducible rfl)
              try simp only [Act.put, List.setIfInBounds_toArray]
              refine wpAnyH_done (by kernel_rfl) ?_ _
              refine NoPanic.normal ?_
              have hgw : w1.heap.size + 1 + 1 < wr.heap.size := World.block_lt_of_cell? _ _ hS'.out.2.2.2.2.2.2.2.1
              have hP : PS w w1.heap.size size A m d t s x1.heap.size A m d (lastL has t s) b (o + k * 3) now body (x1.alloc (.cells #[.slice A m d, .int .i64 0] 26)) := by
                refine ⟨hS'.out.below hHeld.out, ?_, ?_, (hHeld.out.cell hbl).trans a1, (hHeld.out.cell hbl).trans a2, (fun q hq' => ⟨(hF.out q hq').1, by have := (hF.out q hq').2; simp <;> omega⟩), (hR.out.below (hq.out)).alloc _, hB.out.trans (hHeld.out.mono hB.out.size), by omega, ?_⟩
                · go_simp
                · go_simp
                · have := hHeld.out.size; simp at this ⊢ <;> omega
              generalize (x1.alloc (.cells #[.slice A m d, .int .i64 0] 26)) = X at hP ⊢
              generalize x1.heap.size = hh at hP ⊢
              clear hHeld hq hcx hfx  a1 a2 a0 hS' hF hR
              obtain ⟨⟨c0, c1, c2, c3, c4, b0, b1, l0, l1, f0, f1, f2, f3⟩, h0, h1, a1, a2, hF, hR, hB2, hgh, hhX⟩ := hP
              have hF' := hide hF
              have hR' := hide hR
              have hBX := hide hB2
              have hsw := hB1.out.size
              clear hF hR hB2 hB
              go_wp2_with fail
              go_roundw
              case rel =>
                refine ⟨k + 1, has, A, m, d, t, s, by omega, by omega, by go_num, rfl, hide (fun q hq' => ⟨(hF'.out q hq').1, ?_⟩), hide ?_, hide ?_, hide ?_⟩
                · have := (hF'.out q hq').2
                  first | (simp; done) | (simp; omega) | (simp [World.drew]; omega)
                · repeat (first | (with_reducible exact hR'.out) | (with_reducible refine Rd.drew ?_) | (with_reducible refine Rd.alloc ?_ _) | (with_reducible refine Rd.setCell ?_ (fun q hq' => by have := (hF'.out q hq').1; simp <;> omega) _) | (exact hR'.out))
                · refine ⟨?_, ?_, ?_, ?_, ?_, ?_, ?_, ?_, ?_, ?_, ?_, ?_, ?_⟩
                  all_goals go_simp
                · repeat (first | (with_reducible exact hBX.out) | (with_reducible refine Below.drew ?_) | (with_reducible refine Below.alloc ?_ (by simp <;> omega) _) | (with_reducible refine Below.setCell ?_ (by simp <;> omega) _))
              case measure => simp [intOf]; omega
            refine AllReadyH.cons (o := _) rfl (fun K hK => ?_) AllReadyH.nil
            go_simp
            refine hK.out _ _ ?_ (fun hHeld => ?_)
            · repeat (first | (with_reducible exact hHeld) | (with_reducible exact hq) | (with_reducible exact keep_refl _) | (with_reducible refine keep_drew2 ?_) | (with_reducible refine keep_set ?_ (by have := hHeld.out.size; simp at this ⊢ <;> omega) _) | (with_reducible refine keep_alloc ?_ _))
            clear hK K
            try simp only [Act.put, List.setIfInBounds_toArray, List.set_cons_zero, List.set_cons_succ]
            refine wpAnyH_ready (rs := [12]) (by kernel_rfl) (by simp) ?_
            refine AllReadyH.cons (o := _) rfl (fun K hK => ?_) AllReadyH.nil
            go_simp
            refine (send_big 1 0 1 size 1 0 now A m d body _ hm (by omega)).mono ?_
            rintro e x1 ⟨rfl, hb⟩
            have hq := keep_call hHeld hb
            have hsz : wr.heap.size ≤ x1.heap.size := hq.out.size
            obtain ⟨hcx, hfx⟩ := bcell hb
            clear hb
            go_simp
            refine hK.out _ _ ?_ (fun hHeld => ?_)
            · repeat (first | (with_reducible exact hHeld) | (with_reducible exact hq) | (with_reducible exact keep_refl _) | (with_reducible refine keep_drew2 ?_) | (with_reducible refine keep_set ?_ (by have := hHeld.out.size; simp at this ⊢ <;> omega) _) | (with_reducible refine keep_alloc ?_ _))
            clear hK K
            try simp only [Act.put, List.setIfInBounds_toArray, List.set_cons_zero, List.set_cons_succ]
            refine wpAnyH_take (i := 13) (oi := _) (v := ?v17) rfl (by kernel_rfl) (by kernel_rfl) (by kernel_rfl) (fun _ _ _ h => h) (Or.inl ⟨by rfl, ?hy17⟩) hHeld ?rest17
            case hy17 =>
              intro w' hSw
              clear hSw
              go_simp
              try (with_reducible rfl)
            try simp only [Act.put, List.setIfInBounds_toArray]
            refine wpAnyH_take (i := 14) (oi := _) (v := ?v18) rfl (by kernel_rfl) (by kernel_rfl) (by kernel_rfl) (fun _ _ _ h => h) (Or.inl ⟨by rfl, ?hy18⟩) hHeld ?rest18
            case hy18 =>
              intro w' hSw
              clear hSw
              go_simp
              try (with_reducible rfl)
            try simp only [Act.put]
            refine wpAnyH_take (i := 15) (oi := _) (v := ?v19) rfl (by kernel_rfl) (by kernel_rfl) (by kernel_rfl) (fun _ _ _ h => h) (Or.inl ⟨by rfl, ?hy19⟩) hHeld ?rest19
            case hy19 =>
              intro w' hSw
              clear hSw
              go_simp
              try (with_reducible rfl)
            try simp only [Act.put]
            refine wpAnyH_ready (rs := [17]) (by kernel_rfl) (by simp) ?_
            refine AllReadyH.cons (o := _) rfl (fun K hK => ?_) AllReadyH.nil
            go_simp
            refine hK.out _ _ ?_ (fun hHeld => ?_)
            · repeat (first | (with_reducible exact hHeld) | (with_reducible exact hq) | (with_reducible exact keep_refl _) | (with_reducible refine keep_drew2 ?_) | (with_reducible refine keep_set ?_ (by have := hHeld.out.size; simp at this ⊢ <;> omega) _) | (with_reducible refine keep_alloc ?_ _))
            clear hK K
            try simp only [Act.put, List.setIfInBounds_toArray, List.set_cons_zero, List.set_cons_succ]
            refine wpAnyH_take (i := 18) (oi := _) (v := ?v20) rfl (by kernel_rfl) (by kernel_rfl) (by kernel_rfl) (fun _ _ _ h => h) (Or.inl ⟨by rfl, ?hy20⟩) hHeld ?rest20
            case hy20 =>
              intro w' hSw
              clear hSw
              go_simp
              try (with_reducible rfl)
            try simp only [Act.put, List.setIfInBounds_toArray]
            refine wpAnyH_done (by kernel_rfl) ?_ _
            refine NoPanic.normal ?_
            have hgw : w1.heap.size + 1 + 1 < wr.heap.size := World.block_lt_of_cell? _ _ hS'.out.2.2.2.2.2.2.2.1
            have z0 : x1.cell? ⟨wr.heap.size, 0, none⟩ = some (.slice none 0 0) := (hcx _ _ (by simp)).trans (by go_simp)
            have z1 : x1.cell? ⟨wr.heap.size, 1, none⟩ = some (.int .i64 0) := (hcx _ _ (by simp)).trans (by go_simp)
            have hP : PS w w1.heap.size size A m d t s wr.heap.size A m d (lastL has t s) b (o + k * 3) now body ((x1.setCell ⟨wr.heap.size, 0, none⟩ (.slice A m d)).setCell ⟨wr.heap.size, 1, none⟩ (.int .i64 0)) := by
              refine ⟨hS'.out.below hHeld.out, ?_, ?_, (hHeld.out.cell hbl).trans a1, (hHeld.out.cell hbl).trans a2, (fun q hq' => ⟨(hF.out q hq').1, by have := (hF.out q hq').2; simp <;> omega⟩), ((hR.out.below hq.out).setCell (fun q hq' => by have := (hF.out q hq').2; simp <;> omega) _).setCell (fun q hq' => by have := (hF.out q hq').2; simp <;> omega) _, hB.out.trans (hHeld.out.mono hB.out.size), by omega, ?_⟩
              · go_simp
              · go_simp
              · have := World.block_lt_of_cell? _ _ z0; simpa using this
            generalize ((x1.setCell ⟨wr.heap.size, 0, none⟩ (.slice A m d)).setCell ⟨wr.heap.size, 1, none⟩ (.int .i64 0)) = X at hP ⊢
            generalize wr.heap.size = hh at hP ⊢
            clear hHeld hq hcx hfx  a1 a2 a0 hS' hF hR
            obtain ⟨⟨c0, c1, c2, c3, c4, b0, b1, l0, l1, f0, f1, f2, f3⟩, h0, h1, a1, a2, hF, hR, hB2, hgh, hhX⟩ := hP
            have hF' := hide hF
            have hR' := hide hR
            have hBX := hide hB2
            have hsw := hB1.out.size
            clear hF hR hB2 hB
            go_wp2_with fail
            go_roundw
            case rel =>
              refine ⟨k + 1, has, A, m, d, t, s, by omega, by omega, by go_num, rfl, hide (fun q hq' => ⟨(hF'.out q hq').1, ?_⟩), hide ?_, hide ?_, hide ?_⟩
              · have := (hF'.out q hq').2
                first | (simp; done) | (simp; omega) | (simp [World.drew]; omega)
              · repeat (first | (with_reducible exact hR'.out) | (with_reducible refine Rd.drew ?_) | (with_reducible refine Rd.alloc ?_ _) | (with_reducible refine Rd.setCell ?_ (fun q hq' => by have := (hF'.out q hq').1; simp <;> omega) _) | (exact hR'.out))
              · refine ⟨?_, ?_, ?_, ?_, ?_, ?_, ?_, ?_, ?_, ?_, ?_, ?_, ?_⟩
                all_goals go_simp
              · repeat (first | (with_reducible exact hBX.out) | (with_reducible refine Below.drew ?_) | (with_reducible refine Below.alloc ?_ (by simp <;> omega) _) | (with_reducible refine Below.setCell ?_ (by simp <;> omega) _))
            case measure => simp [intOf]; omega
          · refine wp_region_noPanic ?_
            refine wp_region_held_drew (S := fun w' => Hid (Below wr.heap.size wr w')) (by kernel_rfl) (keep_drew _) (fun hHeld => ?_)
            refine wpAnyH_take (i := 0) (oi := _) (v := ?v21) rfl (by kernel_rfl) (by kernel_rfl) (by kernel_rfl) (fun _ _ _ h => h) (Or.inl ⟨by rfl, ?hy21⟩) hHeld ?rest21
            case hy21 =>
              intro w' hSw
              obtain ⟨c0, c1, c2, c3, c4, -, -, -, -, -⟩ := hS'.out.below hSw.out
              clear hSw
              go_simp
              try (with_reducible rfl)
            try simp only [Act.put, List.setIfInBounds_toArray]
            refine wpAnyH_take (i := 1) (oi := _) (v := ?v22) rfl (by kernel_rfl) (by kernel_rfl) (by kernel_rfl) (fun _ _ _ h => h) (Or.inl ⟨by rfl, ?hy22⟩) hHeld ?rest22
            case hy22 =>
              intro w' hSw
              obtain ⟨-, -, -, -, -, b0, b1, -, -, -⟩ := hS'.out.below hSw.out
              clear hSw
              go_simp
              try (with_reducible rfl)
            try simp only [Act.put]
            refine wpAnyH_take (i := 2) (oi := _) (v := ?v23) rfl (by kernel_rfl) (by kernel_rfl) (by kernel_rfl) (fun _ _ _ h => h) (Or.inl ⟨by rfl, ?hy23⟩) hHeld ?rest23
            case hy23 =>
              intro w' hSw
              clear hSw
              go_simp
              try (with_reducible rfl)
            try simp only [Act.put]
            refine wpAnyH_take (i := 3) (oi := _) (v := ?v24) rfl (by kernel_rfl) (by kernel_rfl) (by kernel_rfl) (fun _ _ _ h => h) (Or.inl ⟨by rfl, ?hy24⟩) hHeld ?rest24
            case hy24 =>
              intro w' hSw
              clear hSw
              go_simp
              try (with_reducible rfl)
            try simp only [Act.put]
            refine wpAnyH_take (i := 4) (oi := _) (v := ?v25) rfl (by kernel_rfl) (by kernel_rfl) (by kernel_rfl) (fun _ _ _ h => h) (Or.inl ⟨by rfl, ?hy25⟩) hHeld ?rest25
            case hy25 =>
              intro w' hSw
              clear hSw
              go_simp
              try (with_reducible rfl)
            try simp only [Act.put]
            refine wpAnyH_take (i := 5) (oi := _) (v := ?v26) rfl (by kernel_rfl) (by kernel_rfl) (by kernel_rfl) (fun _ _ _ h => h) (Or.inl ⟨by rfl, ?hy26⟩) hHeld ?rest26
            case hy26 =>
              intro w' hSw
              clear hSw
              go_simp
              try (with_reducible rfl)
            try simp only [Act.put]
            refine wpAnyH_take (i := 6) (oi := _) (v := ?v27) rfl (by kernel_rfl) (by kernel_rfl) (by kernel_rfl) (fun _ _ _ h => h) (Or.inl ⟨by rfl, ?hy27⟩) hHeld ?rest27
            case hy27 =>
              intro w' hSw
              have a1' := (hSw.out.cell hbl).trans a1
              clear hSw
              go_simp
              try (with_reducible rfl)
            try simp only [Act.put]
            refine wpAnyH_take (i := 7) (oi := _) (v := ?v28) rfl (by kernel_rfl) (by kernel_rfl) (by kernel_rfl) (fun _ _ _ h => h) (Or.inl ⟨by rfl, ?hy28⟩) hHeld ?rest28
            case hy28 =>
              intro w' hSw
              clear hSw
              go_simp
              try (with_reducible rfl)
            try simp only [Act.put]
            refine wpAnyH_take (i := 8) (oi := _) (v := ?v29) rfl (by kernel_rfl) (by kernel_rfl) (by kernel_rfl) (fun _ _ _ h => h) (Or.inl ⟨by rfl, ?hy29⟩) hHeld ?rest29
            case hy29 =>
              intro w' hSw
              clear hSw
              go_simp
              try (with_reducible rfl)
            try simp only [Act.put]
            refine wpAnyH_take (i := 9) (oi := _) (v := ?v30) rfl (by kernel_rfl) (by kernel_rfl) (by kernel_rfl) (fun _ _ _ h => h) (Or.inl ⟨by rfl, ?hy30⟩) hHeld ?rest30
            case hy30 =>
              intro w' hSw
              clear hSw
              go_simp
              try (with_reducible rfl)
            try simp only [Act.put]
            refine wpAnyH_take (i := 10) (oi := _) (v := ?v31) rfl (by kernel_rfl) (by kernel_rfl) (by kernel_rfl) (fun _ _ _ h => h) (Or.inl ⟨by rfl, ?hy31⟩) hHeld ?rest31
            case hy31 =>
              intro w' hSw
              clear hSw
              go_simp
              try (with_reducible rfl)
            try simp only [Act.put]
            refine wpAnyH_take (i := 11) (oi := _) (v := ?v32) rfl (by kernel_rfl) (by kernel_rfl) (by kernel_rfl) (fun _ _ _ h => h) (Or.inl ⟨by rfl, ?hy32⟩) hHeld ?rest32
            case hy32 =>
              intro w' hSw
              have a2' := (hSw.out.cell hbl).trans a2
              clear hSw
              go_simp
              try (with_reducible rfl)
            try simp only [Act.put]
            refine wpAnyH_ready (rs := [12, 16]) (by kernel_rfl) (by simp) ?_
            refine AllReadyH.cons (o := _) rfl (fun K hK => ?_) ?_
            · go_simp
              refine (send_sample 0 1 size 1 0 now A m d body _ hm (by omega)).mono ?_
              rintro e x1 ⟨A', d', rfl, hf, hR1, hb⟩
              have hq := keep_call hHeld hb
              have hsz : wr.heap.size ≤ x1.heap.size := hq.out.size
              have hR' := hide hR1
              obtain ⟨hcx, hfx⟩ := bcell hb
              clear hb hR1
              go_simp
              refine hK.out _ _ ?_ (fun hHeld => ?_)
              · repeat (first | (with_reducible exact hHeld) | (with_reducible exact hq) | (with_reducible exact keep_refl _) | (with_reducible refine keep_drew2 ?_) | (with_reducible refine keep_set ?_ (by have := hHeld.out.size; simp at this ⊢ <;> omega) _) | (with_reducible refine keep_alloc ?_ _))
              clear hK K
              try simp only [Act.put, List.setIfInBounds_toArray, List.set_cons_zero, List.set_cons_succ]
              refine wpAnyH_take (i := 13) (oi := _) (v := ?v33) rfl (by kernel_rfl) (by kernel_rfl) (by kernel_rfl) (fun _ _ _ h => h) (Or.inl ⟨by rfl, ?hy33⟩) hHeld ?rest33
              case hy33 =>
                intro w' hSw
                clear hSw
                go_simp
                try (with_reducible rfl)
              try simp only [Act.put, List.setIfInBounds_toArray]
              refine wpAnyH_take (i := 14) (oi := _) (v := ?v34) rfl (by kernel_rfl) (by kernel_rfl) (by kernel_rfl) (fun _ _ _ h => h) (Or.inl ⟨by rfl, ?hy34⟩) hHeld ?rest34
              case hy34 =>
                intro w' hSw
                clear hSw
                go_simp
                try (with_reducible rfl)
              try simp only [Act.put]
              refine wpAnyH_take (i := 15) (oi := _) (v := ?v35) rfl (by kernel_rfl) (by kernel_rfl) (by kernel_rfl) (fun _ _ _ h => h) (Or.inl ⟨by rfl, ?hy35⟩) hHeld ?rest35
              case hy35 =>
                intro w' hSw
                clear hSw
                go_simp
                try (with_reducible rfl)
              try simp only [Act.put]
              refine wpAnyH_ready (rs := [16]) (by kernel_rfl) (by simp) ?_
              refine AllReadyH.cons (o := _) rfl (fun K hK => ?_) AllReadyH.nil
              go_simp
              refine hK.out _ _ ?_ (fun hHeld => ?_)
              · repeat (first | (with_reducible exact hHeld) | (with_reducible exact hq) | (with_reducible exact keep_refl _) | (with_reducible refine keep_drew2 ?_) | (with_reducible refine keep_set ?_ (by have := hHeld.out.size; simp at this ⊢ <;> omega) _) | (with_reducible refine keep_alloc ?_ _))
              clear hK K
              try simp only [Act.put, List.setIfInBounds_toArray, List.set_cons_zero, List.set_cons_succ]
              refine wpAnyH_ready (rs := [17]) (by kernel_rfl) (by simp) ?_
              refine AllReadyH.cons (o := _) rfl (fun K hK => ?_) AllReadyH.nil
              go_simp
              refine hK.out _ _ ?_ (fun hHeld => ?_)
              · repeat (first | (with_reducible exact hHeld) | (with_reducible exact hq) | (with_reducible exact keep_refl _) | (with_reducible refine keep_drew2 ?_) | (with_reducible refine keep_set ?_ (by have := hHeld.out.size; simp at this ⊢ <;> omega) _) | (with_reducible refine keep_alloc ?_ _))
              clear hK K
              try simp only [Act.put, List.setIfInBounds_toArray, List.set_cons_zero, List.set_cons_succ]
              refine wpAnyH_take (i := 18) (oi := _) (v := ?v36) rfl (by kernel_rfl) (by kernel_rfl) (by kernel_rfl) (fun _ _ _ h => h) (Or.inl ⟨by rfl, ?hy36⟩) hHeld ?rest36
              case hy36 =>
                intro w' hSw
                clear hSw
                go_simp
                try (with_reducible rfl)
              try simp only [Act.put, List.setIfInBounds_toArray]
              refine wpAnyH_done (by kernel_rfl) ?_ _
              refine NoPanic.normal ?_
              have hgw : w1.heap.size + 1 + 1 < wr.heap.size := World.block_lt_of_cell? _ _ hS'.out.2.2.2.2.2.2.2.1
              have hP : PS w w1.heap.size size A m d t s x1.heap.size A' 1 d' ([(now, body)]) b (o + k * 3) now body (x1.alloc (.cells #[.slice A' 1 d', .int .i64 0] 26)) := by
                refine ⟨hS'.out.below hHeld.out, ?_, ?_, (hHeld.out.cell hbl).trans a1, (hHeld.out.cell hbl).trans a2, (fun q hq' => ⟨by have : wr.heap.size ≤ q.block := hf q hq'; omega, by have := (hR'.out.2.2.2.2 q hq').1 (by omega); simp <;> omega⟩), (hR'.out).alloc _, hB.out.trans (hHeld.out.mono hB.out.size), by omega, ?_⟩
                · go_simp
                · go_simp
                · have := hHeld.out.size; simp at this ⊢ <;> omega
              generalize (x1.alloc (.cells #[.slice A' 1 d', .int .i64 0] 26)) = X at hP ⊢
              generalize x1.heap.size = hh at hP ⊢
              clear hHeld hq hcx hfx hf hR' a1 a2 a0 hS' hF hR
              obtain ⟨⟨c0, c1, c2, c3, c4, b0, b1, l0, l1, f0, f1, f2, f3⟩, h0, h1, a1, a2, hF, hR, hB2, hgh, hhX⟩ := hP
              have hF' := hide hF
              have hR' := hide hR
              have hBX := hide hB2
              have hsw := hB1.out.size
              clear hF hR hB2 hB
              go_wp2_with fail
              go_region
              go_wp2
              go_roundw
              case rel =>
                refine ⟨k + 1, true, A', 1, d', now, body, by omega, by omega, by go_num, rfl, hide (fun q hq' => ⟨(hF'.out q hq').1, ?_⟩), hide ?_, hide ?_, hide ?_⟩
                · have := (hF'.out q hq').2
                  first | (simp; done) | (simp; omega) | (simp [World.drew]; omega)
                · repeat (first | (with_reducible exact hR'.out) | (with_reducible refine Rd.drew ?_) | (with_reducible refine Rd.alloc ?_ _) | (with_reducible refine Rd.setCell ?_ (fun q hq' => by have := (hF'.out q hq').1; simp <;> omega) _) | (exact hR'.out))
                · refine ⟨?_, ?_, ?_, ?_, ?_, ?_, ?_, ?_, ?_, ?_, ?_, ?_, ?_⟩
                  all_goals go_simp
                · repeat (first | (with_reducible exact hBX.out) | (with_reducible refine Below.drew ?_) | (with_reducible refine Below.alloc ?_ (by simp <;> omega) _) | (with_reducible refine Below.setCell ?_ (by simp <;> omega) _))
              case measure => simp [intOf]; omega
            refine AllReadyH.cons (o := _) rfl (fun K hK => ?_) AllReadyH.nil
            go_simp
            refine hK.out _ _ ?_ (fun hHeld => ?_)
            · repeat (first | (with_reducible exact hHeld) | (with_reducible exact hq) | (with_reducible exact keep_refl _) | (with_reducible refine keep_drew2 ?_) | (with_reducible refine keep_set ?_ (by have := hHeld.out.size; simp at this ⊢ <;> omega) _) | (with_reducible refine keep_alloc ?_ _))
            clear hK K
            try simp only [Act.put, List.setIfInBounds_toArray, List.set_cons_zero, List.set_cons_succ]
            refine wpAnyH_ready (rs := [12]) (by kernel_rfl) (by simp) ?_
            refine AllReadyH.cons (o := _) rfl (fun K hK => ?_) AllReadyH.nil
            go_simp
            refine (send_sample 0 1 size 1 0 now A m d body _ hm (by omega)).mono ?_
            rintro e x1 ⟨A', d', rfl, hf, hR1, hb⟩
            have hq := keep_call hHeld hb
            have hsz : wr.heap.size ≤ x1.heap.size := hq.out.size
            have hR' := hide hR1
            obtain ⟨hcx, hfx⟩ := bcell hb
            clear hb hR1
            go_simp
            refine hK.out _ _ ?_ (fun hHeld => ?_)
            · repeat (first | (with_reducible exact hHeld) | (with_reducible exact hq) | (with_reducible exact keep_refl _) | (with_reducible refine keep_drew2 ?_) | (with_reducible refine keep_set ?_ (by have := hHeld.out.size; simp at this ⊢ <;> omega) _) | (with_reducible refine keep_alloc ?_ _))
            clear hK K
            try simp only [Act.put, List.setIfInBounds_toArray, List.set_cons_zero, List.set_cons_succ]
            refine wpAnyH_take (i := 13) (oi := _) (v := ?v37) rfl (by kernel_rfl) (by kernel_rfl) (by kernel_rfl) (fun _ _ _ h => h) (Or.inl ⟨by rfl, ?hy37⟩) hHeld ?rest37
            case hy37 =>
              intro w' hSw
              clear hSw
              go_simp
              try (with_reducible rfl)
            try simp only [Act.put, List.setIfInBounds_toArray]
            refine wpAnyH_take (i := 14) (oi := _) (v := ?v38) rfl (by kernel_rfl) (by kernel_rfl) (by kernel_rfl) (fun _ _ _ h => h) (Or.inl ⟨by rfl, ?hy38⟩) hHeld ?rest38
            case hy38 =>
              intro w' hSw
              clear hSw
              go_simp
              try (with_reducible rfl)
            try simp only [Act.put]
            refine wpAnyH_take (i := 15) (oi := _) (v := ?v39) rfl (by kernel_rfl) (by kernel_rfl) (by kernel_rfl) (fun _ _ _ h => h) (Or.inl ⟨by rfl, ?hy39⟩) hHeld ?rest39
            case hy39 =>
              intro w' hSw
              clear hSw
              go_simp
              try (with_reducible rfl)
            try simp only [Act.put]
            refine wpAnyH_ready (rs := [17]) (by kernel_rfl) (by simp) ?_
            refine AllReadyH.cons (o := _) rfl (fun K hK => ?_) AllReadyH.nil
            go_simp
            refine hK.out _ _ ?_ (fun hHeld => ?_)
            · repeat (first | (with_reducible exact hHeld) | (with_reducible exact hq) | (with_reducible exact keep_refl _) | (with_reducible refine keep_drew2 ?_) | (with_reducible refine keep_set ?_ (by have := hHeld.out.size; simp at this ⊢ <;> omega) _) | (with_reducible refine keep_alloc ?_ _))
            clear hK K
            try simp only [Act.put, List.setIfInBounds_toArray, List.set_cons_zero, List.set_cons_succ]
            refine wpAnyH_take (i := 18) (oi := _) (v := ?v40) rfl (by kernel_rfl) (by kernel_rfl) (by kernel_rfl) (fun _ _ _ h => h) (Or.inl ⟨by rfl, ?hy40⟩) hHeld ?rest40
            case hy40 =>
              intro w' hSw
              clear hSw
              go_simp
              try (with_reducible rfl)
            try simp only [Act.put, List.setIfInBounds_toArray]
            refine wpAnyH_done (by kernel_rfl) ?_ _
            refine NoPanic.normal ?_
            have hgw : w1.heap.size + 1 + 1 < wr.heap.size := World.block_lt_of_cell? _ _ hS'.out.2.2.2.2.2.2.2.1
            have z0 : x1.cell? ⟨wr.heap.size, 0, none⟩ = some (.slice none 0 0) := (hcx _ _ (by simp)).trans (by go_simp)
            have z1 : x1.cell? ⟨wr.heap.size, 1, none⟩ = some (.int .i64 0) := (hcx _ _ (by simp)).trans (by go_simp)
            have hP : PS w w1.heap.size size A m d t s wr.heap.size A' 1 d' ([(now, body)]) b (o + k * 3) now body ((x1.setCell ⟨wr.heap.size, 0, none⟩ (.slice A' 1 d')).setCell ⟨wr.heap.size, 1, none⟩ (.int .i64 0)) := by
              refine ⟨hS'.out.below hHeld.out, ?_, ?_, (hHeld.out.cell hbl).trans a1, (hHeld.out.cell hbl).trans a2, (fun q hq' => ⟨by have := hf q hq'; simp at this; omega, by have := (hR'.out.2.2.2.2 q hq').1 (by omega); simp <;> omega⟩), ((hR'.out).setCell (fun q hq' => by have := hf q hq'; simp at this; simp; omega) _).setCell (fun q hq' => by have := hf q hq'; simp at this; simp; omega) _, hB.out.trans (hHeld.out.mono hB.out.size), by omega, ?_⟩
              · go_simp
              · go_simp
              · have := World.block_lt_of_cell? _ _ z0; simpa using this
            generalize ((x1.setCell ⟨wr.heap.size, 0, none⟩ (.slice A' 1 d')).setCell ⟨wr.heap.size, 1, none⟩ (.int .i64 0)) = X at hP ⊢
            generalize wr.heap.size = hh at hP ⊢
            clear hHeld hq hcx hfx hf hR' a1 a2 a0 hS' hF hR
            obtain ⟨⟨c0, c1, c2, c3, c4, b0, b1, l0, l1, f0, f1, f2, f3⟩, h0, h1, a1, a2, hF, hR, hB2, hgh, hhX⟩ := hP
            have hF' := hide hF
            have hR' := hide hR
            have hBX := hide hB2
            have hsw := hB1.out.size
            clear hF hR hB2 hB
            go_wp2_with fail
            go_region
            go_wp2
            go_roundw
            case rel =>
              refine ⟨k + 1, true, A', 1, d', now, body, by omega, by omega, by go_num, rfl, hide (fun q hq' => ⟨(hF'.out q hq').1, ?_⟩), hide ?_, hide ?_, hide ?_⟩
              · have := (hF'.out q hq').2
                first | (simp; done) | (simp; omega) | (simp [World.drew]; omega)
              · repeat (first | (with_reducible exact hR'.out) | (with_reducible refine Rd.drew ?_) | (with_reducible refine Rd.alloc ?_ _) | (with_reducible refine Rd.setCell ?_ (fun q hq' => by have := (hF'.out q hq').1; simp <;> omega) _) | (exact hR'.out))
              · refine ⟨?_, ?_, ?_, ?_, ?_, ?_, ?_, ?_, ?_, ?_, ?_, ?_, ?_⟩
                all_goals go_simp
              · repeat (first | (with_reducible exact hBX.out) | (with_reducible refine Below.drew ?_) | (with_reducible refine Below.alloc ?_ (by simp <;> omega) _) | (with_reducible refine Below.setCell ?_ (by simp <;> omega) _))
            case measure => simp [intOf]; omega
      · have hx1 : (k : Int) < (n : Int) := by omega
        have hx2 : ¬ (k : Int) < 300 := by omega
        obtain ⟨c0, c1, c2, c3, c4, b0, b1, l0, l1, f0, f1, f2, f3⟩ := hS'.out
        have hm1 : m ≤ 1 := by
          have := hR.out.1
          rw [← this]
          cases has <;> simp [lastL]
        have hm2 : (m : Int) ≤ 1 := by omega
        go_wp2_with fail
        refine (waits_any A m d 0 _ (by unfold maxLen; omega)).mono ?_
        rintro e x1 ⟨rfl, hb⟩
        have hBX := hide (hB.out.trans (hb.mono hB.out.size))
        go_wp2
        go_ret
        exact ⟨rfl, hBX.out⟩
    · have hx1 : ¬ (k : Int) < (n : Int) := by omega
      obtain ⟨c0, c1, c2, c3, c4, b0, b1, l0, l1, f0, f1, f2, f3⟩ := hS'.out
      have hm1 : m ≤ 1 := by
        have := hR.out.1
        rw [← this]
        cases has <;> simp [lastL]
      have hm2 : (m : Int) ≤ 1 := by omega
      go_wp2_with fail
      refine (waits_any A m d 0 _ (by unfold maxLen; omega)).mono ?_
      rintro e x1 ⟨rfl, hb⟩
      have hBX := hide (hB.out.trans (hb.mono hB.out.size))
      go_wp2
      go_ret
      exact ⟨rfl, hBX.out⟩

end Go.Proofs.Ytepnfhjfjjdpkaa.Port
