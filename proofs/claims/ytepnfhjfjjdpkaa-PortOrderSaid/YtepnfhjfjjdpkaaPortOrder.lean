/-
  The walk of PortOrder: of a queue messages are taken in the order in which they were sent, each once. Conditions: none.
-/
import Derived.Test.YtepnfhjfjjdpkaaPortShown
import Derived.Test.YtepnfhjfjjdpkaaPortAny
import Derived.Test.YtepnfhjfjjdpkaaPortOrder1
import Derived.Test.YtepnfhjfjjdpkaaPortTake2
import Derived.Test.YtepnfhjfjjdpkaaRegionU
import Derived.Deep.RegionHeld3
import Derived.LoopTactic
import Derived.Deep.LoopGhost
import Derived.Outline
import Derived.IntWalk
import Derived.BigQuiet
import Derived.Deep.QuietTactic
namespace Go.Proofs.Ytepnfhjfjjdpkaa.Port
open Go.RowKit

set_option maxHeartbeats 400000 in
theorem order_early (size depth : Int) (L : Option Addr) (n c : Nat) (w : World) (h : depth < 1 ∨ 100 < depth) :
    Calls Try.prog 4 #[.int .i64 size, .int .i64 depth, .slice L n c] w fun e w' => e = .returned (.bool true) ∧ Below w.heap.size w w' := by
  by_cases h1 : depth < 1
  · go_enter Try.func4, Try.ntmps4
    go_wp2_with fail
    refine (shown_any _).mono ?_
    rintro e w1 ⟨rfl, hb1⟩
    have hB1 := hide hb1
    clear hb1
    go_wp2
    go_ret
    exact ⟨rfl, hB1.out⟩
  · have h2 : 100 < depth := by omega
    go_enter Try.func4, Try.ntmps4
    go_wp2_with fail
    refine (shown_any _).mono ?_
    rintro e w1 ⟨rfl, hb1⟩
    have hB1 := hide hb1
    clear hb1
    go_wp2
    go_ret
    exact ⟨rfl, hB1.out⟩

set_option maxRecDepth 4000 in
set_option maxHeartbeats 4000000 in
theorem order_walk (size depth : Int) (L : Option Addr) (n c : Nat) (f : Nat → Bool × Int × ByteArray) (w : World) (hL : Acts w L n c f) (hd1 : ¬ depth < 1) (hd2 : ¬ 100 < depth) :
    Calls Try.prog 4 #[.int .i64 size, .int .i64 depth, .slice L n c] w fun e w' => e = .returned (.bool true) ∧ Below w.heap.size w w' := by
  have hnc := hL.1
  have hcm : c ≤ 9223372036854775807 := hL.2.1
  have hL' := hide hL
  clear hL
  obtain ⟨i0, hi, hz0, hz1, hz2⟩ := info_parts infoMsg
  go_enter Try.func4, Try.ntmps4
  go_wp2_with fail
  refine (shown_any _).mono ?_
  rintro e w1 ⟨rfl, hb1⟩
  have hB1 := hide hb1
  have hs1 := hb1.size
  clear hb1
  go_wp2
  have hS : OS w1.heap.size size depth none 0 0 0 ((w1.alloc (.cells #[.int .i64 2, .int .i64 0, .int .i64 1, .int .i64 size, .int .i64 depth] 23)).alloc (.cells #[.slice none 0 0, .int .i64 0] 26)) := by
    refine ⟨?_, ?_, ?_, ?_, ?_, ?_, ?_, ?_, ?_⟩
    all_goals go_simp
  have hB2 : Below w.heap.size w ((w1.alloc (.cells #[.int .i64 2, .int .i64 0, .int .i64 1, .int .i64 size, .int .i64 depth] 23)).alloc (.cells #[.slice none 0 0, .int .i64 0] 26)) :=
    (hB1.out.alloc (by omega) _).alloc (by simp; omega) _
  go_loopw [10, 11, 12, 13] (fun V sv gv i wr => ∃ (k : Nat) (ins ms : List Msg) (got sent lost : Nat) (A : Option Addr) (m d : Nat) (U : Value), U = V ∧ k ≤ n ∧ k ≤ 300 ∧ i = .int .i64 k ∧ sv = .int .i64 sent ∧ gv = .int .i64 got ∧ Hid (Books depth k ins ms got sent lost) ∧ Hid (∀ q, A = some q → 0 < m → w1.heap.size + 1 < q.block ∧ q.block < wr.heap.size ∧ V.ownBlock ≠ some q.block) ∧ Hid (Rd wr A m d ms) ∧ Hid (OS w1.heap.size size depth A m d lost wr) ∧ Hid (wr.ownsRow (w1.heap.size + 1 + 1) 39 2 V ins.length (cellsM ins)) ∧ Hid (Below w.heap.size w wr)) (fun _ _ _ i _ => n - (intOf i).toNat)
  case atStart => exact ⟨0, [], [], 0, 0, 0, none, 0, 0, _, rfl, Nat.zero_le _, Nat.zero_le _, rfl, rfl, rfl, hide (Books.start depth (by omega)), hide (fun q hq => by cases hq), hide (Rd.nil _), hide hS, hide (World.ownsRow_nil _ _ _ _), hide hB2⟩
  case round =>
    obtain ⟨k, ins, ms, got, sent, lost, A, m, d, V, rfl, hk, hk3, rfl, rfl, rfl, hK, hF, hR, hS', hO, hB⟩ := hrel
    clear hS hB2
    by_cases hlt : k < n
    · by_cases h300 : k < 300
      · have hk1 : (k : Int) < (n : Int) := by omega
        have hk2 : (k : Int) < 300 := by omega
        have hk0 : (0 : Int) ≤ (k : Int) := Int.natCast_nonneg _
        obtain ⟨b, o, rfl, hbw, u0, u1, u2, hm⟩ := hL'.out.at_ hlt
        have hbl : b < wr.heap.size := Nat.lt_of_lt_of_le hbw hB.out.size
        have a0 := (hB.out.cell (p := ⟨b, o + k * 3, none⟩) hbw).trans u0
        have a1 := (hB.out.cell (p := ⟨b, o + k * 3 + 1, none⟩) hbw).trans u1
        have a2 := (hB.out.cell (p := ⟨b, o + k * 3 + 2, none⟩) hbw).trans u2
        clear u0 u1 u2
        generalize hfk : f k = fk at a0 a1 a2 hm
        obtain ⟨sends, now, body⟩ := fk
        simp only at a0 a1 a2 hm
        cases sends
        · cases ms with
          | nil =>
            obtain ⟨c0, c1, c2, c3, c4, b0, b1, f0, f1⟩ := hS'.out
            go_wp2_with fail
            obtain rfl : m = 0 := hR.out.1.symm
            refine (take_none 2 0 1 size depth lost A d _).mono ?_
            rintro e x1 ⟨rfl, hb⟩
            have hS2 := hS'.out.below hb
            have hBX := hide (hB.out.trans (hb.mono hB.out.size))
            have hO' := hide (own_keep hO.out hb)
            have hsz : wr.heap.size ≤ x1.heap.size := hb.size
            have hsw := hB1.out.size
            have hF' : Hid (∀ q, A = some q → 0 < 0 → w1.heap.size + 1 < q.block ∧ q.block < x1.heap.size ∧ V.ownBlock ≠ some q.block) := hide (fun q hq' h0 => absurd h0 (by omega))
            have hR' := hide (hR.out.below hb)
            clear hb hS' hB hR hF hO c0 c1 c2 c3 c4 b0 b1 f0 f1 a0 a1 a2
            obtain ⟨c0, c1, c2, c3, c4, b0, b1, f0, f1⟩ := hS2
            have q0 : w1.heap.size < x1.heap.size := World.block_lt_of_cell? _ _ c0
            have q1 : w1.heap.size + 1 < x1.heap.size := World.block_lt_of_cell? _ _ b0
            go_wp2
            go_roundw
            case rel =>
              refine ⟨k + 1, ins, [], got, sent, lost, A, 0, d, _, rfl, by omega, by omega, by go_num, by first | rfl | go_num, by first | rfl | go_num, hide hK.out.none, hide (fun q hq' hm0 => ⟨(hF'.out q hq' hm0).1, ?_, (hF'.out q hq' hm0).2.2⟩), hide ?_, hide ?_, hide ?_, hide ?_⟩
              · have := (hF'.out q hq' hm0).2.1
                first | (simp; done) | (simp; omega) | (simp [World.drew]; omega)
              · repeat (first | (with_reducible exact hR'.out) | (with_reducible refine Rd.drew ?_) | (with_reducible refine Rd.below ?_ (below_drewN _ _)) | (with_reducible refine Rd.alloc ?_ _) | (with_reducible refine Rd.setCell0 ?_ (fun q hq' hm0 => by have := (hF'.out q hq' hm0).1; simp <;> omega) _))
              · refine ⟨?_, ?_, ?_, ?_, ?_, ?_, ?_, ?_, ?_⟩
                all_goals go_simp
              · repeat (first | (with_reducible exact hO'.out) | (with_reducible refine World.ownsRow.drew ?_) | (with_reducible refine own_keep ?_ (below_drewN _ _)) | (with_reducible refine own_keep ?_ (below_new _ _)) | (with_reducible refine ownsRow_setCell_below ?_ (by simp <;> omega) _))
              · repeat (first | (with_reducible exact hBX.out) | (with_reducible refine Below.drew ?_) | (with_reducible refine Below.drewN ?_ _) | (with_reducible refine Below.alloc ?_ (by first | omega | (simp <;> omega)) _) | (with_reducible refine Below.setCell ?_ (by first | omega | (simp <;> omega)) _))
            case measure => simp [intOf]; omega
          | cons msg ms =>
            obtain ⟨c0, c1, c2, c3, c4, b0, b1, f0, f1⟩ := hS'.out
            go_wp2_with fail
            obtain ⟨hgi, hgm, hK2⟩ := hK.out.take
            have hm1 : m = ms.length + 1 := by have := hR.out.1; simp at this; omega
            refine (take_queue2 2 0 1 size depth lost A m d msg ms _ (by exact hR.out) (by decide)).mono ?_
            rintro e x1 ⟨A', rfl, hA', hR1, hb⟩
            have hS2 := hS'.out.below hb
            have hBX := hide (hB.out.trans (hb.mono hB.out.size))
            have hO' := hide (own_keep hO.out hb)
            have hsz : wr.heap.size ≤ x1.heap.size := hb.size
            have hsw := hB1.out.size
            have hF' : Hid (∀ q, A' = some q → 0 < m - 1 → w1.heap.size + 1 < q.block ∧ q.block < x1.heap.size ∧ V.ownBlock ≠ some q.block) := hide (fun q hq' h0 => by
              obtain ⟨a, ha, hqa⟩ := hA' q hq'
              obtain ⟨y1, y2, y3⟩ := hF.out a ha (by omega)
              have := hb.size
              rw [hqa]
              exact ⟨y1, by omega, y3⟩)
            have hR' := hide hR1
            clear hR1
            clear hb hS' hB hR hF hO c0 c1 c2 c3 c4 b0 b1 f0 f1 a0 a1 a2
            obtain ⟨c0, c1, c2, c3, c4, b0, b1, f0, f1⟩ := hS2
            have q0 : w1.heap.size < x1.heap.size := World.block_lt_of_cell? _ _ c0
            have q1 : w1.heap.size + 1 < x1.heap.size := World.block_lt_of_cell? _ _ b0
            obtain ⟨mt, mb⟩ := msg
            obtain ⟨Ai, ci, rfl, -⟩ := own_slice hO'.out
            have hRC := RdC.of_own hO'.out
            obtain ⟨bi, oi, rfl, hbi, hci⟩ := hRC.lit (by omega) (by omega)
            obtain ⟨p0, p1⟩ := cellsM_get _ _ _ hgm
            have r0 := hci _ _ p0
            have r1 := hci _ _ p1
            have hil : ins.length ≤ ci := hRC.2.1
            have hcl : ci ≤ 9223372036854775807 := hRC.2.2.1
            have hgi' : ¬ ((ins.length : Int) ≤ (got : Int)) := by omega
            have hgi2 : (got : Int) < (ins.length : Int) := by omega
            have hg0 : (0 : Int) ≤ (got : Int) := Int.natCast_nonneg _
            simp only [← Nat.add_assoc] at r0 r1
            clear hRC hci p0 p1
            go_wp2_with fail
            go_quiet (fail)
            go_wp2
            go_roundw
            case rel =>
              refine ⟨k + 1, ins, ms, (got + 1), sent, lost, A', (m - 1), (m - 1), _, rfl, by omega, by omega, by go_num, by first | rfl | go_num, by first | rfl | go_num, hide hK2, hide (fun q hq' hm0 => ⟨(hF'.out q hq' hm0).1, ?_, (hF'.out q hq' hm0).2.2⟩), hide ?_, hide ?_, hide ?_, hide ?_⟩
              · have := (hF'.out q hq' hm0).2.1
                first | (simp; done) | (simp; omega) | (simp [World.drew]; omega)
              · repeat (first | (with_reducible exact hR'.out) | (with_reducible refine Rd.drew ?_) | (with_reducible refine Rd.below ?_ (below_drewN _ _)) | (with_reducible refine Rd.alloc ?_ _) | (with_reducible refine Rd.setCell0 ?_ (fun q hq' hm0 => by have := (hF'.out q hq' hm0).1; simp <;> omega) _))
              · refine ⟨?_, ?_, ?_, ?_, ?_, ?_, ?_, ?_, ?_⟩
                all_goals go_simp
              · repeat (first | (with_reducible exact hO'.out) | (with_reducible refine World.ownsRow.drew ?_) | (with_reducible refine own_keep ?_ (below_drewN _ _)) | (with_reducible refine own_keep ?_ (below_new _ _)) | (with_reducible refine ownsRow_setCell_below ?_ (by simp <;> omega) _))
              · repeat (first | (with_reducible exact hBX.out) | (with_reducible refine Below.drew ?_) | (with_reducible refine Below.drewN ?_ _) | (with_reducible refine Below.alloc ?_ (by first | omega | (simp <;> omega)) _) | (with_reducible refine Below.setCell ?_ (by first | omega | (simp <;> omega)) _))
            case measure => simp [intOf]; omega
        · have hml : m ≤ maxLen := by have := hR.out.2.1; have := hR.out.2.2.1; omega
          obtain ⟨c0, c1, c2, c3, c4, b0, b1, f0, f1⟩ := hS'.out
          go_wp2_with fail
          refine (waits_any A m d lost _ hml).mono ?_
          rintro e x0 ⟨rfl, hb0⟩
          have hsz0 : wr.heap.size ≤ x0.heap.size := hb0.size
          have hS0 := hide (hS'.out.below hb0)
          have hB0 := hide (hB.out.trans (hb0.mono hB.out.size))
          have hO0 := hide (own_keep hO.out hb0)
          have hR0 := hide (hR.out.below hb0)
          have hF0 : Hid (∀ q, A = some q → 0 < m → w1.heap.size + 1 < q.block ∧ q.block < x0.heap.size ∧ V.ownBlock ≠ some q.block) := hide (fun q hq' h0 => ⟨(hF.out q hq' h0).1, Nat.lt_of_lt_of_le (hF.out q hq' h0).2.1 hsz0, (hF.out q hq' h0).2.2⟩)
          have a1 := (hb0.cell hbl).trans a1
          have a2 := (hb0.cell hbl).trans a2
          have hbl : b < x0.heap.size := Nat.lt_of_lt_of_le hbl hsz0
          have hsw := hB1.out.size
          have hml2 : ms.length = m := hR0.out.1
          obtain ⟨-, -, y3, y4, y5⟩ := hK.out
          clear hb0 hS' hB hO hR hF c0 c1 c2 c3 c4 b0 b1 f0 f1 a0
          go_wp2_with fail
          by_cases hz : size < (body.size : Int)
          · refine wp_region_noPanic ?_
            refine wp_region_held_drew (S := fun w' => Hid (Below x0.heap.size x0 w')) (by kernel_rfl) (keep_drew _) (fun hHeld => ?_)
            refine wpAnyHN_take (i := 0) (oi := _) (some 75) (v := ?v1) rfl rfl (by kernel_rfl) (by kernel_rfl) (by kernel_rfl) (Or.inl ⟨by rfl, ?hy1⟩) hHeld ?rest1
            case hy1 =>
              intro w' hSw
              obtain ⟨c0, c1, c2, c3, c4, -, -, -, -⟩ := hS0.out.below hSw.out
              clear hSw
              go_simp
              try (with_reducible rfl)
            try simp only [Act.put, List.setIfInBounds_toArray, List.set_cons_zero, List.set_cons_succ]
            refine wpAnyHN_take (i := 1) (oi := _) (some 76) (v := ?v2) rfl rfl (by kernel_rfl) (by kernel_rfl) (by kernel_rfl) (Or.inl ⟨by rfl, ?hy2⟩) hHeld ?rest2
            case hy2 =>
              intro w' hSw
              obtain ⟨-, -, -, -, -, b0, b1, -, -⟩ := hS0.out.below hSw.out
              clear hSw
              go_simp
              try (with_reducible rfl)
            try simp only [Act.put, List.setIfInBounds_toArray, List.set_cons_zero, List.set_cons_succ]
            refine wpAnyHN_take (i := 2) (oi := _) (some 77) (v := ?v3) rfl rfl (by kernel_rfl) (by kernel_rfl) (by kernel_rfl) (Or.inl ⟨by rfl, ?hy3⟩) hHeld ?rest3
            case hy3 =>
              intro w' hSw
              clear hSw
              go_simp
              try (with_reducible rfl)
            try simp only [Act.put, List.setIfInBounds_toArray, List.set_cons_zero, List.set_cons_succ]
            refine wpAnyHN_take (i := 3) (oi := _) (some 78) (v := ?v4) rfl rfl (by kernel_rfl) (by kernel_rfl) (by kernel_rfl) (Or.inl ⟨by rfl, ?hy4⟩) hHeld ?rest4
            case hy4 =>
              intro w' hSw
              clear hSw
              go_simp
              try (with_reducible rfl)
            try simp only [Act.put, List.setIfInBounds_toArray, List.set_cons_zero, List.set_cons_succ]
            refine wpAnyHN_take (i := 4) (oi := _) (some 79) (v := ?v5) rfl rfl (by kernel_rfl) (by kernel_rfl) (by kernel_rfl) (Or.inl ⟨by rfl, ?hy5⟩) hHeld ?rest5
            case hy5 =>
              intro w' hSw
              clear hSw
              go_simp
              try (with_reducible rfl)
            try simp only [Act.put, List.setIfInBounds_toArray, List.set_cons_zero, List.set_cons_succ]
            refine wpAnyHN_take (i := 5) (oi := _) (some 80) (v := ?v6) rfl rfl (by kernel_rfl) (by kernel_rfl) (by kernel_rfl) (Or.inl ⟨by rfl, ?hy6⟩) hHeld ?rest6
            case hy6 =>
              intro w' hSw
              clear hSw
              go_simp
              try (with_reducible rfl)
            try simp only [Act.put, List.setIfInBounds_toArray, List.set_cons_zero, List.set_cons_succ]
            refine wpAnyHN_take (i := 6) (oi := _) (some 81) (v := ?v7) rfl rfl (by kernel_rfl) (by kernel_rfl) (by kernel_rfl) (Or.inl ⟨by rfl, ?hy7⟩) hHeld ?rest7
            case hy7 =>
              intro w' hSw
              have a1' := (hSw.out.cell hbl).trans a1
              clear hSw
              go_simp
              try (with_reducible rfl)
            try simp only [Act.put, List.setIfInBounds_toArray, List.set_cons_zero, List.set_cons_succ]
            refine wpAnyHN_take (i := 7) (oi := _) (some 82) (v := ?v8) rfl rfl (by kernel_rfl) (by kernel_rfl) (by kernel_rfl) (Or.inl ⟨by rfl, ?hy8⟩) hHeld ?rest8
            case hy8 =>
              intro w' hSw
              clear hSw
              go_simp
              try (with_reducible rfl)
            try simp only [Act.put, List.setIfInBounds_toArray, List.set_cons_zero, List.set_cons_succ]
            refine wpAnyHN_take (i := 8) (oi := _) (some 83) (v := ?v9) rfl rfl (by kernel_rfl) (by kernel_rfl) (by kernel_rfl) (Or.inl ⟨by rfl, ?hy9⟩) hHeld ?rest9
            case hy9 =>
              intro w' hSw
              clear hSw
              go_simp
              try (with_reducible rfl)
            try simp only [Act.put, List.setIfInBounds_toArray, List.set_cons_zero, List.set_cons_succ]
            refine wpAnyHN_take (i := 9) (oi := _) (some 84) (v := ?v10) rfl rfl (by kernel_rfl) (by kernel_rfl) (by kernel_rfl) (Or.inl ⟨by rfl, ?hy10⟩) hHeld ?rest10
            case hy10 =>
              intro w' hSw
              clear hSw
              go_simp
              try (with_reducible rfl)
            try simp only [Act.put, List.setIfInBounds_toArray, List.set_cons_zero, List.set_cons_succ]
            refine wpAnyHN_take (i := 10) (oi := _) (some 85) (v := ?v11) rfl rfl (by kernel_rfl) (by kernel_rfl) (by kernel_rfl) (Or.inl ⟨by rfl, ?hy11⟩) hHeld ?rest11
            case hy11 =>
              intro w' hSw
              clear hSw
              go_simp
              try (with_reducible rfl)
            try simp only [Act.put, List.setIfInBounds_toArray, List.set_cons_zero, List.set_cons_succ]
            refine wpAnyHN_take (i := 11) (oi := _) (some 86) (v := ?v12) rfl rfl (by kernel_rfl) (by kernel_rfl) (by kernel_rfl) (Or.inl ⟨by rfl, ?hy12⟩) hHeld ?rest12
            case hy12 =>
              intro w' hSw
              have a2' := (hSw.out.cell hbl).trans a2
              clear hSw
              go_simp
              try (with_reducible rfl)
            try simp only [Act.put, List.setIfInBounds_toArray, List.set_cons_zero, List.set_cons_succ]
            refine wpAnyH_ready (rs := [12, 16]) (by kernel_rfl) (by simp) ?_
            refine AllReadyH.cons (o := _) rfl (fun K' hK' => ?_) ?_
            · go_simp
              refine (send_big 2 0 1 size depth lost now A m d body _ hm (by omega)).mono ?_
              rintro e x1 ⟨rfl, hb⟩
              have hq := keep_call hHeld hb
              have hsz : x0.heap.size ≤ x1.heap.size := hq.out.size
              obtain ⟨hcx, hfx⟩ := bcell hb
              clear hb
              go_simp
              refine hK'.out _ _ ?_ (fun hHeld => ?_)
              · repeat (first | (with_reducible exact hHeld) | (with_reducible exact hq) | (with_reducible exact keep_refl _) | (with_reducible refine keep_drew2 ?_) | (with_reducible refine keep_set ?_ (by have := hHeld.out.size; simp at this ⊢ <;> omega) _) | (with_reducible refine keep_alloc ?_ _))
              clear hK' K'
              try simp only [Act.put, List.setIfInBounds_toArray, List.set_cons_zero, List.set_cons_succ]
              refine wpAnyHN_take (i := 13) (oi := _) (some 74) (v := ?v13) rfl rfl (by kernel_rfl) (by kernel_rfl) (by kernel_rfl) (Or.inl ⟨by rfl, ?hy13⟩) hHeld ?rest13
              case hy13 =>
                intro w' hSw
                clear hSw
                go_simp
                try (with_reducible rfl)
              try simp only [Act.put, List.setIfInBounds_toArray, List.set_cons_zero, List.set_cons_succ]
              refine wpAnyHN_take (i := 14) (oi := _) (some 88) (v := ?v14) rfl rfl (by kernel_rfl) (by kernel_rfl) (by kernel_rfl) (Or.inl ⟨by rfl, ?hy14⟩) hHeld ?rest14
              case hy14 =>
                intro w' hSw
                clear hSw
                go_simp
                try (with_reducible rfl)
              try simp only [Act.put, List.setIfInBounds_toArray, List.set_cons_zero, List.set_cons_succ]
              refine wpAnyHN_take (i := 15) (oi := _) (some 89) (v := ?v15) rfl rfl (by kernel_rfl) (by kernel_rfl) (by kernel_rfl) (Or.inl ⟨by rfl, ?hy15⟩) hHeld ?rest15
              case hy15 =>
                intro w' hSw
                clear hSw
                go_simp
                try (with_reducible rfl)
              try simp only [Act.put, List.setIfInBounds_toArray, List.set_cons_zero, List.set_cons_succ]
              refine wpAnyH_ready (rs := [16]) (by kernel_rfl) (by simp) ?_
              refine AllReadyH.cons (o := _) rfl (fun K' hK' => ?_) AllReadyH.nil
              go_simp
              refine hK'.out _ _ ?_ (fun hHeld => ?_)
              · repeat (first | (with_reducible exact hHeld) | (with_reducible exact hq) | (with_reducible exact keep_refl _) | (with_reducible refine keep_drew2 ?_) | (with_reducible refine keep_set ?_ (by have := hHeld.out.size; simp at this ⊢ <;> omega) _) | (with_reducible refine keep_alloc ?_ _))
              clear hK' K'
              try simp only [Act.put, List.setIfInBounds_toArray, List.set_cons_zero, List.set_cons_succ]
              refine wpAnyH_ready (rs := [17]) (by kernel_rfl) (by simp) ?_
              refine AllReadyH.cons (o := _) rfl (fun K' hK' => ?_) AllReadyH.nil
              go_simp
              refine hK'.out _ _ ?_ (fun hHeld => ?_)
              · repeat (first | (with_reducible exact hHeld) | (with_reducible exact hq) | (with_reducible exact keep_refl _) | (with_reducible refine keep_drew2 ?_) | (with_reducible refine keep_set ?_ (by have := hHeld.out.size; simp at this ⊢ <;> omega) _) | (with_reducible refine keep_alloc ?_ _))
              clear hK' K'
              try simp only [Act.put, List.setIfInBounds_toArray, List.set_cons_zero, List.set_cons_succ]
              refine wpAnyHN_take (i := 18) (oi := _) (some 19) (v := ?v16) rfl rfl (by kernel_rfl) (by kernel_rfl) (by kernel_rfl) (Or.inl ⟨by rfl, ?hy16⟩) hHeld ?rest16
              case hy16 =>
                intro w' hSw
                clear hSw
                go_simp
                try (with_reducible rfl)
              try simp only [Act.put, List.setIfInBounds_toArray, List.set_cons_zero, List.set_cons_succ]
              refine wpAnyH_done (by kernel_rfl) ?_ _
              refine NoPanic.normal ?_
              have hgw : w1.heap.size + 1 < x0.heap.size := World.block_lt_of_cell? _ _ hS0.out.2.2.2.2.2.1
              have hP : PO w w1.heap.size size depth A m d lost x1.heap.size A m d lost ms b (o + k * 3) now body V ins (x1.alloc (.cells #[.slice A m d, .int .i64 lost] 26)) := by
                refine ⟨hS0.out.below hHeld.out, ?_, ?_, (hHeld.out.cell hbl).trans a1, (hHeld.out.cell hbl).trans a2, (fun q hq' hm0 => ⟨(hF0.out q hq' hm0).1, by have := (hF0.out q hq' hm0).2.1; simp <;> omega, (hF0.out q hq' hm0).2.2⟩), (hR0.out.below (hq.out)).alloc _, hB0.out.trans (hHeld.out.mono hB0.out.size), by omega, ?_, fun e => by have := (hO0.out.lt _ e).2; omega, hbw, hsw, (own_keep hO0.out hq.out).alloc _⟩
                · go_simp
                · go_simp
                · have := hHeld.out.size; simp at this ⊢ <;> omega
              generalize (x1.alloc (.cells #[.slice A m d, .int .i64 lost] 26)) = X at hP ⊢
              generalize x1.heap.size = hh at hP ⊢
              clear hHeld hq hcx hfx  a1 a2 hS0 hF0 hR0 hO0
              obtain ⟨⟨c0, c1, c2, c3, c4, b0, b1, f0, f1⟩, h0, h1, a1, a2, hF', hR', hBX, hgh, hhX, hVh, -, -, hO'⟩ := hP
              have hF' := hide hF'
              have hR' := hide hR'
              have hBX := hide hBX
              have hO' := hide hO'
              go_wp2
              go_roundw
              case rel =>
                refine ⟨k + 1, ins, ms, got, sent, lost, A, m, d, _, rfl, by omega, by omega, by go_num, by first | rfl | go_num, by first | rfl | go_num, hide hK.out.none, hide (fun q hq' hm0 => ⟨(hF'.out q hq' hm0).1, ?_, (hF'.out q hq' hm0).2.2⟩), hide ?_, hide ?_, hide ?_, hide ?_⟩
                · have := (hF'.out q hq' hm0).2.1
                  first | (simp; done) | (simp; omega) | (simp [World.drew]; omega)
                · repeat (first | (with_reducible exact hR'.out) | (with_reducible refine Rd.drew ?_) | (with_reducible refine Rd.below ?_ (below_drewN _ _)) | (with_reducible refine Rd.alloc ?_ _) | (with_reducible refine Rd.setCell0 ?_ (fun q hq' hm0 => by have := (hF'.out q hq' hm0).1; simp <;> omega) _))
                · refine ⟨?_, ?_, ?_, ?_, ?_, ?_, ?_, ?_, ?_⟩
                  all_goals go_simp
                · repeat (first | (with_reducible exact hO'.out) | (with_reducible refine World.ownsRow.drew ?_) | (with_reducible refine own_keep ?_ (below_drewN _ _)) | (with_reducible refine own_keep ?_ (below_new _ _)) | (with_reducible refine ownsRow_setCell_below ?_ (by simp <;> omega) _))
                · repeat (first | (with_reducible exact hBX.out) | (with_reducible refine Below.drew ?_) | (with_reducible refine Below.drewN ?_ _) | (with_reducible refine Below.alloc ?_ (by first | omega | (simp <;> omega)) _) | (with_reducible refine Below.setCell ?_ (by first | omega | (simp <;> omega)) _))
              case measure => simp [intOf]; omega
            refine AllReadyH.cons (o := _) rfl (fun K' hK' => ?_) AllReadyH.nil
            go_simp
            refine hK'.out _ _ ?_ (fun hHeld => ?_)
            · repeat (first | (with_reducible exact hHeld) | (with_reducible exact hq) | (with_reducible exact keep_refl _) | (with_reducible refine keep_drew2 ?_) | (with_reducible refine keep_set ?_ (by have := hHeld.out.size; simp at this ⊢ <;> omega) _) | (with_reducible refine keep_alloc ?_ _))
            clear hK' K'
            try simp only [Act.put, List.setIfInBounds_toArray, List.set_cons_zero, List.set_cons_succ]
            refine wpAnyH_ready (rs := [12]) (by kernel_rfl) (by simp) ?_
            refine AllReadyH.cons (o := _) rfl (fun K' hK' => ?_) AllReadyH.nil
            go_simp
            refine (send_big 2 0 1 size depth lost now A m d body _ hm (by omega)).mono ?_
            rintro e x1 ⟨rfl, hb⟩
            have hq := keep_call hHeld hb
            have hsz : x0.heap.size ≤ x1.heap.size := hq.out.size
            obtain ⟨hcx, hfx⟩ := bcell hb
            clear hb
            go_simp
            refine hK'.out _ _ ?_ (fun hHeld => ?_)
            · repeat (first | (with_reducible exact hHeld) | (with_reducible exact hq) | (with_reducible exact keep_refl _) | (with_reducible refine keep_drew2 ?_) | (with_reducible refine keep_set ?_ (by have := hHeld.out.size; simp at this ⊢ <;> omega) _) | (with_reducible refine keep_alloc ?_ _))
            clear hK' K'
            try simp only [Act.put, List.setIfInBounds_toArray, List.set_cons_zero, List.set_cons_succ]
            refine wpAnyHN_take (i := 13) (oi := _) (some 74) (v := ?v17) rfl rfl (by kernel_rfl) (by kernel_rfl) (by kernel_rfl) (Or.inl ⟨by rfl, ?hy17⟩) hHeld ?rest17
            case hy17 =>
              intro w' hSw
              clear hSw
              go_simp
              try (with_reducible rfl)
            try simp only [Act.put, List.setIfInBounds_toArray, List.set_cons_zero, List.set_cons_succ]
            refine wpAnyHN_take (i := 14) (oi := _) (some 88) (v := ?v18) rfl rfl (by kernel_rfl) (by kernel_rfl) (by kernel_rfl) (Or.inl ⟨by rfl, ?hy18⟩) hHeld ?rest18
            case hy18 =>
              intro w' hSw
              clear hSw
              go_simp
              try (with_reducible rfl)
            try simp only [Act.put, List.setIfInBounds_toArray, List.set_cons_zero, List.set_cons_succ]
            refine wpAnyHN_take (i := 15) (oi := _) (some 89) (v := ?v19) rfl rfl (by kernel_rfl) (by kernel_rfl) (by kernel_rfl) (Or.inl ⟨by rfl, ?hy19⟩) hHeld ?rest19
            case hy19 =>
              intro w' hSw
              clear hSw
              go_simp
              try (with_reducible rfl)
            try simp only [Act.put, List.setIfInBounds_toArray, List.set_cons_zero, List.set_cons_succ]
            refine wpAnyH_ready (rs := [17]) (by kernel_rfl) (by simp) ?_
            refine AllReadyH.cons (o := _) rfl (fun K' hK' => ?_) AllReadyH.nil
            go_simp
            refine hK'.out _ _ ?_ (fun hHeld => ?_)
            · repeat (first | (with_reducible exact hHeld) | (with_reducible exact hq) | (with_reducible exact keep_refl _) | (with_reducible refine keep_drew2 ?_) | (with_reducible refine keep_set ?_ (by have := hHeld.out.size; simp at this ⊢ <;> omega) _) | (with_reducible refine keep_alloc ?_ _))
            clear hK' K'
            try simp only [Act.put, List.setIfInBounds_toArray, List.set_cons_zero, List.set_cons_succ]
            refine wpAnyHN_take (i := 18) (oi := _) (some 19) (v := ?v20) rfl rfl (by kernel_rfl) (by kernel_rfl) (by kernel_rfl) (Or.inl ⟨by rfl, ?hy20⟩) hHeld ?rest20
            case hy20 =>
              intro w' hSw
              clear hSw
              go_simp
              try (with_reducible rfl)
            try simp only [Act.put, List.setIfInBounds_toArray, List.set_cons_zero, List.set_cons_succ]
            refine wpAnyH_done (by kernel_rfl) ?_ _
            refine NoPanic.normal ?_
            have hgw : w1.heap.size + 1 < x0.heap.size := World.block_lt_of_cell? _ _ hS0.out.2.2.2.2.2.1
            have z0 : x1.cell? ⟨x0.heap.size, 0, none⟩ = some (.slice none 0 0) := (hcx _ _ (by simp)).trans (by go_simp)
            have z1 : x1.cell? ⟨x0.heap.size, 1, none⟩ = some (.int .i64 0) := (hcx _ _ (by simp)).trans (by go_simp)
            have hP : PO w w1.heap.size size depth A m d lost x0.heap.size A m d lost ms b (o + k * 3) now body V ins ((x1.setCell ⟨x0.heap.size, 0, none⟩ (.slice A m d)).setCell ⟨x0.heap.size, 1, none⟩ (.int .i64 lost)) := by
              refine ⟨hS0.out.below hHeld.out, ?_, ?_, (hHeld.out.cell hbl).trans a1, (hHeld.out.cell hbl).trans a2, (fun q hq' hm0 => ⟨(hF0.out q hq' hm0).1, by have := (hF0.out q hq' hm0).2.1; simp <;> omega, (hF0.out q hq' hm0).2.2⟩), ((hR0.out.below hq.out).setCell0 (fun q hq' hm0 => by have := (hF0.out q hq' hm0).2.1; simp <;> omega) _).setCell0 (fun q hq' hm0 => by have := (hF0.out q hq' hm0).2.1; simp <;> omega) _, hB0.out.trans (hHeld.out.mono hB0.out.size), by omega, ?_, fun e => by have := (hO0.out.lt _ e).2; omega, hbw, hsw, ownsRow_setCell_other (ownsRow_setCell_other (own_keep hO0.out hq.out) (fun e => by have := (hO0.out.lt _ e).2; simp at this) _) (fun e => by have := (hO0.out.lt _ e).2; simp at this) _⟩
              · go_simp
              · go_simp
              · have := World.block_lt_of_cell? _ _ z0; simpa using this
            generalize ((x1.setCell ⟨x0.heap.size, 0, none⟩ (.slice A m d)).setCell ⟨x0.heap.size, 1, none⟩ (.int .i64 lost)) = X at hP ⊢
            generalize x0.heap.size = hh at hP ⊢
            clear hHeld hq hcx hfx  a1 a2 hS0 hF0 hR0 hO0
            obtain ⟨⟨c0, c1, c2, c3, c4, b0, b1, f0, f1⟩, h0, h1, a1, a2, hF', hR', hBX, hgh, hhX, hVh, -, -, hO'⟩ := hP
            have hF' := hide hF'
            have hR' := hide hR'
            have hBX := hide hBX
            have hO' := hide hO'
            go_wp2
            go_roundw
            case rel =>
              refine ⟨k + 1, ins, ms, got, sent, lost, A, m, d, _, rfl, by omega, by omega, by go_num, by first | rfl | go_num, by first | rfl | go_num, hide hK.out.none, hide (fun q hq' hm0 => ⟨(hF'.out q hq' hm0).1, ?_, (hF'.out q hq' hm0).2.2⟩), hide ?_, hide ?_, hide ?_, hide ?_⟩
              · have := (hF'.out q hq' hm0).2.1
                first | (simp; done) | (simp; omega) | (simp [World.drew]; omega)
              · repeat (first | (with_reducible exact hR'.out) | (with_reducible refine Rd.drew ?_) | (with_reducible refine Rd.below ?_ (below_drewN _ _)) | (with_reducible refine Rd.alloc ?_ _) | (with_reducible refine Rd.setCell0 ?_ (fun q hq' hm0 => by have := (hF'.out q hq' hm0).1; simp <;> omega) _))
              · refine ⟨?_, ?_, ?_, ?_, ?_, ?_, ?_, ?_, ?_⟩
                all_goals go_simp
              · repeat (first | (with_reducible exact hO'.out) | (with_reducible refine World.ownsRow.drew ?_) | (with_reducible refine own_keep ?_ (below_drewN _ _)) | (with_reducible refine own_keep ?_ (below_new _ _)) | (with_reducible refine ownsRow_setCell_below ?_ (by simp <;> omega) _))
              · repeat (first | (with_reducible exact hBX.out) | (with_reducible refine Below.drew ?_) | (with_reducible refine Below.drewN ?_ _) | (with_reducible refine Below.alloc ?_ (by first | omega | (simp <;> omega)) _) | (with_reducible refine Below.setCell ?_ (by first | omega | (simp <;> omega)) _))
            case measure => simp [intOf]; omega
          · by_cases hmd : (m : Int) < depth
            · refine wp_region_noPanic ?_
              refine wp_region_held_drew (S := fun w' => Hid (Below x0.heap.size x0 w')) (by kernel_rfl) (keep_drew _) (fun hHeld => ?_)
              refine wpAnyHN_take (i := 0) (oi := _) (some 75) (v := ?v21) rfl rfl (by kernel_rfl) (by kernel_rfl) (by kernel_rfl) (Or.inl ⟨by rfl, ?hy21⟩) hHeld ?rest21
              case hy21 =>
                intro w' hSw
                obtain ⟨c0, c1, c2, c3, c4, -, -, -, -⟩ := hS0.out.below hSw.out
                clear hSw
                go_simp
                try (with_reducible rfl)
              try simp only [Act.put, List.setIfInBounds_toArray, List.set_cons_zero, List.set_cons_succ]
              refine wpAnyHN_take (i := 1) (oi := _) (some 76) (v := ?v22) rfl rfl (by kernel_rfl) (by kernel_rfl) (by kernel_rfl) (Or.inl ⟨by rfl, ?hy22⟩) hHeld ?rest22
              case hy22 =>
                intro w' hSw
                obtain ⟨-, -, -, -, -, b0, b1, -, -⟩ := hS0.out.below hSw.out
                clear hSw
                go_simp
                try (with_reducible rfl)
              try simp only [Act.put, List.setIfInBounds_toArray, List.set_cons_zero, List.set_cons_succ]
              refine wpAnyHN_take (i := 2) (oi := _) (some 77) (v := ?v23) rfl rfl (by kernel_rfl) (by kernel_rfl) (by kernel_rfl) (Or.inl ⟨by rfl, ?hy23⟩) hHeld ?rest23
              case hy23 =>
                intro w' hSw
                clear hSw
                go_simp
                try (with_reducible rfl)
              try simp only [Act.put, List.setIfInBounds_toArray, List.set_cons_zero, List.set_cons_succ]
              refine wpAnyHN_take (i := 3) (oi := _) (some 78) (v := ?v24) rfl rfl (by kernel_rfl) (by kernel_rfl) (by kernel_rfl) (Or.inl ⟨by rfl, ?hy24⟩) hHeld ?rest24
              case hy24 =>
                intro w' hSw
                clear hSw
                go_simp
                try (with_reducible rfl)
              try simp only [Act.put, List.setIfInBounds_toArray, List.set_cons_zero, List.set_cons_succ]
              refine wpAnyHN_take (i := 4) (oi := _) (some 79) (v := ?v25) rfl rfl (by kernel_rfl) (by kernel_rfl) (by kernel_rfl) (Or.inl ⟨by rfl, ?hy25⟩) hHeld ?rest25
              case hy25 =>
                intro w' hSw
                clear hSw
                go_simp
                try (with_reducible rfl)
              try simp only [Act.put, List.setIfInBounds_toArray, List.set_cons_zero, List.set_cons_succ]
              refine wpAnyHN_take (i := 5) (oi := _) (some 80) (v := ?v26) rfl rfl (by kernel_rfl) (by kernel_rfl) (by kernel_rfl) (Or.inl ⟨by rfl, ?hy26⟩) hHeld ?rest26
              case hy26 =>
                intro w' hSw
                clear hSw
                go_simp
                try (with_reducible rfl)
              try simp only [Act.put, List.setIfInBounds_toArray, List.set_cons_zero, List.set_cons_succ]
              refine wpAnyHN_take (i := 6) (oi := _) (some 81) (v := ?v27) rfl rfl (by kernel_rfl) (by kernel_rfl) (by kernel_rfl) (Or.inl ⟨by rfl, ?hy27⟩) hHeld ?rest27
              case hy27 =>
                intro w' hSw
                have a1' := (hSw.out.cell hbl).trans a1
                clear hSw
                go_simp
                try (with_reducible rfl)
              try simp only [Act.put, List.setIfInBounds_toArray, List.set_cons_zero, List.set_cons_succ]
              refine wpAnyHN_take (i := 7) (oi := _) (some 82) (v := ?v28) rfl rfl (by kernel_rfl) (by kernel_rfl) (by kernel_rfl) (Or.inl ⟨by rfl, ?hy28⟩) hHeld ?rest28
              case hy28 =>
                intro w' hSw
                clear hSw
                go_simp
                try (with_reducible rfl)
              try simp only [Act.put, List.setIfInBounds_toArray, List.set_cons_zero, List.set_cons_succ]
              refine wpAnyHN_take (i := 8) (oi := _) (some 83) (v := ?v29) rfl rfl (by kernel_rfl) (by kernel_rfl) (by kernel_rfl) (Or.inl ⟨by rfl, ?hy29⟩) hHeld ?rest29
              case hy29 =>
                intro w' hSw
                clear hSw
                go_simp
                try (with_reducible rfl)
              try simp only [Act.put, List.setIfInBounds_toArray, List.set_cons_zero, List.set_cons_succ]
              refine wpAnyHN_take (i := 9) (oi := _) (some 84) (v := ?v30) rfl rfl (by kernel_rfl) (by kernel_rfl) (by kernel_rfl) (Or.inl ⟨by rfl, ?hy30⟩) hHeld ?rest30
              case hy30 =>
                intro w' hSw
                clear hSw
                go_simp
                try (with_reducible rfl)
              try simp only [Act.put, List.setIfInBounds_toArray, List.set_cons_zero, List.set_cons_succ]
              refine wpAnyHN_take (i := 10) (oi := _) (some 85) (v := ?v31) rfl rfl (by kernel_rfl) (by kernel_rfl) (by kernel_rfl) (Or.inl ⟨by rfl, ?hy31⟩) hHeld ?rest31
              case hy31 =>
                intro w' hSw
                clear hSw
                go_simp
                try (with_reducible rfl)
              try simp only [Act.put, List.setIfInBounds_toArray, List.set_cons_zero, List.set_cons_succ]
              refine wpAnyHN_take (i := 11) (oi := _) (some 86) (v := ?v32) rfl rfl (by kernel_rfl) (by kernel_rfl) (by kernel_rfl) (Or.inl ⟨by rfl, ?hy32⟩) hHeld ?rest32
              case hy32 =>
                intro w' hSw
                have a2' := (hSw.out.cell hbl).trans a2
                clear hSw
                go_simp
                try (with_reducible rfl)
              try simp only [Act.put, List.setIfInBounds_toArray, List.set_cons_zero, List.set_cons_succ]
              refine wpAnyH_ready (rs := [12, 16]) (by kernel_rfl) (by simp) ?_
              refine AllReadyH.cons (o := _) rfl (fun K' hK' => ?_) ?_
              · go_simp
                refine (send_queue 2 0 1 size depth lost now A m d ms body _ (hR0.out.below hHeld.out) (by omega) hm (by omega) (by decide) (by omega)).mono ?_
                rintro e x1 ⟨A', d', rfl, hf, hR1, hb⟩
                have hq := keep_call hHeld hb
                have hsz : x0.heap.size ≤ x1.heap.size := hq.out.size
                have hR' := hide hR1
                obtain ⟨hcx, hfx⟩ := bcell hb
                clear hb hR1
                go_simp
                refine hK'.out _ _ ?_ (fun hHeld => ?_)
                · repeat (first | (with_reducible exact hHeld) | (with_reducible exact hq) | (with_reducible exact keep_refl _) | (with_reducible refine keep_drew2 ?_) | (with_reducible refine keep_set ?_ (by have := hHeld.out.size; simp at this ⊢ <;> omega) _) | (with_reducible refine keep_alloc ?_ _))
                clear hK' K'
                try simp only [Act.put, List.setIfInBounds_toArray, List.set_cons_zero, List.set_cons_succ]
                refine wpAnyHN_take (i := 13) (oi := _) (some 74) (v := ?v33) rfl rfl (by kernel_rfl) (by kernel_rfl) (by kernel_rfl) (Or.inl ⟨by rfl, ?hy33⟩) hHeld ?rest33
                case hy33 =>
                  intro w' hSw
                  clear hSw
                  go_simp
                  try (with_reducible rfl)
                try simp only [Act.put, List.setIfInBounds_toArray, List.set_cons_zero, List.set_cons_succ]
                refine wpAnyHN_take (i := 14) (oi := _) (some 88) (v := ?v34) rfl rfl (by kernel_rfl) (by kernel_rfl) (by kernel_rfl) (Or.inl ⟨by rfl, ?hy34⟩) hHeld ?rest34
                case hy34 =>
                  intro w' hSw
                  clear hSw
                  go_simp
                  try (with_reducible rfl)
                try simp only [Act.put, List.setIfInBounds_toArray, List.set_cons_zero, List.set_cons_succ]
                refine wpAnyHN_take (i := 15) (oi := _) (some 89) (v := ?v35) rfl rfl (by kernel_rfl) (by kernel_rfl) (by kernel_rfl) (Or.inl ⟨by rfl, ?hy35⟩) hHeld ?rest35
                case hy35 =>
                  intro w' hSw
                  clear hSw
                  go_simp
                  try (with_reducible rfl)
                try simp only [Act.put, List.setIfInBounds_toArray, List.set_cons_zero, List.set_cons_succ]
                refine wpAnyH_ready (rs := [16]) (by kernel_rfl) (by simp) ?_
                refine AllReadyH.cons (o := _) rfl (fun K' hK' => ?_) AllReadyH.nil
                go_simp
                refine hK'.out _ _ ?_ (fun hHeld => ?_)
                · repeat (first | (with_reducible exact hHeld) | (with_reducible exact hq) | (with_reducible exact keep_refl _) | (with_reducible refine keep_drew2 ?_) | (with_reducible refine keep_set ?_ (by have := hHeld.out.size; simp at this ⊢ <;> omega) _) | (with_reducible refine keep_alloc ?_ _))
                clear hK' K'
                try simp only [Act.put, List.setIfInBounds_toArray, List.set_cons_zero, List.set_cons_succ]
                refine wpAnyH_ready (rs := [17]) (by kernel_rfl) (by simp) ?_
                refine AllReadyH.cons (o := _) rfl (fun K' hK' => ?_) AllReadyH.nil
                go_simp
                refine hK'.out _ _ ?_ (fun hHeld => ?_)
                · repeat (first | (with_reducible exact hHeld) | (with_reducible exact hq) | (with_reducible exact keep_refl _) | (with_reducible refine keep_drew2 ?_) | (with_reducible refine keep_set ?_ (by have := hHeld.out.size; simp at this ⊢ <;> omega) _) | (with_reducible refine keep_alloc ?_ _))
                clear hK' K'
                try simp only [Act.put, List.setIfInBounds_toArray, List.set_cons_zero, List.set_cons_succ]
                refine wpAnyHN_take (i := 18) (oi := _) (some 19) (v := ?v36) rfl rfl (by kernel_rfl) (by kernel_rfl) (by kernel_rfl) (Or.inl ⟨by rfl, ?hy36⟩) hHeld ?rest36
                case hy36 =>
                  intro w' hSw
                  clear hSw
                  go_simp
                  try (with_reducible rfl)
                try simp only [Act.put, List.setIfInBounds_toArray, List.set_cons_zero, List.set_cons_succ]
                refine wpAnyH_done (by kernel_rfl) ?_ _
                refine NoPanic.normal ?_
                have hgw : w1.heap.size + 1 < x0.heap.size := World.block_lt_of_cell? _ _ hS0.out.2.2.2.2.2.1
                have hP : PO w w1.heap.size size depth A m d lost x1.heap.size A' (m + 1) d' lost (ms ++ [(now, body)]) b (o + k * 3) now body V ins (x1.alloc (.cells #[.slice A' (m + 1) d', .int .i64 lost] 26)) := by
                  refine ⟨hS0.out.below hHeld.out, ?_, ?_, (hHeld.out.cell hbl).trans a1, (hHeld.out.cell hbl).trans a2, (fun q hq' hm0 => ⟨by have : x0.heap.size ≤ q.block := hf q hq'; omega, by have := (hR'.out.2.2.2.2 q hq').1 (by omega); simp <;> omega, fun e => by have : x0.heap.size ≤ q.block := hf q hq'; have := (hO0.out.lt _ e).2; omega⟩), (hR'.out).alloc _, hB0.out.trans (hHeld.out.mono hB0.out.size), by omega, ?_, fun e => by have := (hO0.out.lt _ e).2; omega, hbw, hsw, (own_keep hO0.out hq.out).alloc _⟩
                  · go_simp
                  · go_simp
                  · have := hHeld.out.size; simp at this ⊢ <;> omega
                generalize (x1.alloc (.cells #[.slice A' (m + 1) d', .int .i64 lost] 26)) = X at hP ⊢
                generalize x1.heap.size = hh at hP ⊢
                clear hHeld hq hcx hfx hf hR' a1 a2 hS0 hF0 hR0 hO0
                have hPH := hide hP
                obtain ⟨⟨c0, c1, c2, c3, c4, b0, b1, f0, f1⟩, h0, h1, a1, a2, hF', hR', hBX, hgh, hhX, hVh, -, -, hO'⟩ := hP
                have hO' := hide hO'
                have hbX : b < X.heap.size := World.block_lt_of_cell? _ _ a1
                have hV : V.ownBlock ≠ some b := fun e => by have := (hO'.out.lt _ e).1; omega
                clear hF' hR' hBX c0 c1 c2 c3 c4 b0 b1 f0 f1 h0 h1
                go_wp2_with fail
                refine wp_region_noPanic ?_
                refine wp_region_held_drew (S := fun w' => w'.cell? ⟨b, o + k * 3 + 1, none⟩ = some (.int .u64 now) ∧ w'.cell? ⟨b, o + k * 3 + 2, none⟩ = some (.string body)) (by kernel_rfl) (⟨a1, a2⟩) (fun hHeld => ?_)
                refine wpAnyHN_take (i := 0) (oi := _) (some 97) (v := ?v37) rfl rfl (by kernel_rfl) (by kernel_rfl) (by kernel_rfl) (Or.inl ⟨by rfl, ?hy37⟩) hHeld ?rest37
                case hy37 =>
                  intro w' hSw
                  clear hSw
                  go_simp
                  try (with_reducible rfl)
                try simp only [Act.put, List.setIfInBounds_toArray, List.set_cons_zero, List.set_cons_succ]
                refine wpAnyHN_take (i := 1) (oi := _) (some 98) (v := ?v38) rfl rfl (by kernel_rfl) (by kernel_rfl) (by kernel_rfl) (Or.inl ⟨by rfl, ?hy38⟩) hHeld ?rest38
                case hy38 =>
                  intro w' hSw
                  clear hSw
                  go_simp
                  try (with_reducible rfl)
                try simp only [Act.put, List.setIfInBounds_toArray, List.set_cons_zero, List.set_cons_succ]
                refine wpAnyHN_take (i := 2) (oi := _) (some 99) (v := ?v39) rfl rfl (by kernel_rfl) (by kernel_rfl) (by kernel_rfl) (Or.inl ⟨by rfl, ?hy39⟩) hHeld ?rest39
                case hy39 =>
                  intro w' hSw
                  clear hSw
                  go_simp
                  try (with_reducible rfl)
                try simp only [Act.put, List.setIfInBounds_toArray, List.set_cons_zero, List.set_cons_succ]
                refine wpAnyHN_take (i := 3) (oi := _) (some 100) (v := ?v40) rfl rfl (by kernel_rfl) (by kernel_rfl) (by kernel_rfl) (Or.inl ⟨by rfl, ?hy40⟩) hHeld ?rest40
                case hy40 =>
                  intro w' hSw
                  clear hSw
                  go_simp
                  try (with_reducible rfl)
                try simp only [Act.put, List.setIfInBounds_toArray, List.set_cons_zero, List.set_cons_succ]
                refine wpAnyHN_take (i := 4) (oi := _) (some 101) (v := ?v41) rfl rfl (by kernel_rfl) (by kernel_rfl) (by kernel_rfl) (Or.inl ⟨by rfl, ?hy41⟩) hHeld ?rest41
                case hy41 =>
                  intro w' hSw
                  clear hSw
                  go_simp
                  try (with_reducible rfl)
                try simp only [Act.put, List.setIfInBounds_toArray, List.set_cons_zero, List.set_cons_succ]
                refine wpAnyHN_take (i := 5) (oi := _) (some 102) (v := ?v42) rfl rfl (by kernel_rfl) (by kernel_rfl) (by kernel_rfl) (Or.inl ⟨by rfl, ?hy42⟩) hHeld ?rest42
                case hy42 =>
                  intro w' hSw
                  obtain ⟨q1, q2⟩ := hSw
                  go_simp
                  try (with_reducible rfl)
                try simp only [Act.put, List.setIfInBounds_toArray, List.set_cons_zero, List.set_cons_succ]
                refine wpAnyHN_take (i := 6) (oi := _) (some 103) (v := ?v43) rfl rfl (by kernel_rfl) (by kernel_rfl) (by kernel_rfl) (Or.inl ⟨by rfl, ?hy43⟩) hHeld ?rest43
                case hy43 =>
                  intro w' hSw
                  clear hSw
                  go_simp
                  try (with_reducible rfl)
                try simp only [Act.put, List.setIfInBounds_toArray, List.set_cons_zero, List.set_cons_succ]
                refine wpAnyHN_take (i := 7) (oi := _) (some 104) (v := ?v44) rfl rfl (by kernel_rfl) (by kernel_rfl) (by kernel_rfl) (Or.inl ⟨by rfl, ?hy44⟩) hHeld ?rest44
                case hy44 =>
                  intro w' hSw
                  clear hSw
                  go_simp
                  try (with_reducible rfl)
                try simp only [Act.put, List.setIfInBounds_toArray, List.set_cons_zero, List.set_cons_succ]
                refine wpAnyHN_take (i := 8) (oi := _) (some 105) (v := ?v45) rfl rfl (by kernel_rfl) (by kernel_rfl) (by kernel_rfl) (Or.inl ⟨by rfl, ?hy45⟩) hHeld ?rest45
                case hy45 =>
                  intro w' hSw
                  clear hSw
                  go_simp
                  try (with_reducible rfl)
                try simp only [Act.put, List.setIfInBounds_toArray, List.set_cons_zero, List.set_cons_succ]
                refine wpAnyHN_take (i := 9) (oi := _) (some 106) (v := ?v46) rfl rfl (by kernel_rfl) (by kernel_rfl) (by kernel_rfl) (Or.inl ⟨by rfl, ?hy46⟩) hHeld ?rest46
                case hy46 =>
                  intro w' hSw
                  clear hSw
                  go_simp
                  try (with_reducible rfl)
                try simp only [Act.put, List.setIfInBounds_toArray, List.set_cons_zero, List.set_cons_succ]
                refine wpAnyHN_take (i := 10) (oi := _) (some 107) (v := ?v47) rfl rfl (by kernel_rfl) (by kernel_rfl) (by kernel_rfl) (Or.inl ⟨by rfl, ?hy47⟩) hHeld ?rest47
                case hy47 =>
                  intro w' hSw
                  obtain ⟨q1, q2⟩ := hSw
                  go_simp
                  try (with_reducible rfl)
                try simp only [Act.put, List.setIfInBounds_toArray, List.set_cons_zero, List.set_cons_succ]
                refine wpAnyHN_take (i := 11) (oi := _) (some 108) (v := ?v48) rfl rfl (by kernel_rfl) (by kernel_rfl) (by kernel_rfl) (Or.inl ⟨by rfl, ?hy48⟩) hHeld ?rest48
                case hy48 =>
                  intro w' hSw
                  clear hSw
                  go_simp
                  try (with_reducible rfl)
                try simp only [Act.put, List.setIfInBounds_toArray, List.set_cons_zero, List.set_cons_succ]
                refine wpAnyH_ready (rs := [12]) (by kernel_rfl) (by simp) ?_
                refine AllReadyH.cons (o := _) rfl (fun K' hK' => ?_) AllReadyH.nil
                go_simp
                refine hK'.out _ _ ?_ (fun hHeld => ?_)
                · exact ⟨(World.cell?_alloc_lt _ _ _ (by first | exact hbX | (show b < X.heap.size; exact hbX))).trans hHeld.1, (World.cell?_alloc_lt _ _ _ (by first | exact hbX | (show b < X.heap.size; exact hbX))).trans hHeld.2⟩
                clear hK' K'
                try simp only [Act.put, List.setIfInBounds_toArray, List.set_cons_zero, List.set_cons_succ]
                refine wpAnyH_ready (rs := [13]) (by kernel_rfl) (by simp) ?_
                refine AllReadyH.cons (o := _) rfl (fun K' hK' => ?_) AllReadyH.nil
                refine step_append_lies _ rfl (.tmp 97) (.tmp 109) 24 (by rfl) (w1.heap.size + 1 + 1) 39 i0 _ 2 24 Try.underlying24 hi hz0 hz1 hz2 rfl (by omega) V ins.length (cellsM ins) (by rfl) (hO'.out.drew.alloc _) ⟨X.heap.size, 0, none⟩ 1 1 [.int .u64 now, .string body] (by rfl) rfl (two_new (by rfl)) (by simp [Value.oneCell']) (by omega) (by unfold maxLen; omega) (by omega) (by simp <;> omega) (X.heap.size + 1) (by simp) ?_
                intro g' cap' x2 hown' hgrow hat hlt2
                refine hK'.out _ _ ?_ (fun hHeld => ?_)
                · exact ⟨(hgrow.cell_far ⟨b, o + k * 3 + 1, none⟩ (by simp <;> omega) (fun e => hV e.symm)).trans hHeld.1, (hgrow.cell_far ⟨b, o + k * 3 + 2, none⟩ (by simp <;> omega) (fun e => hV e.symm)).trans hHeld.2⟩
                clear hK' K'
                try simp only [Act.put, List.setIfInBounds_toArray]
                refine wpAnyHN_take (i := 14) (oi := _) (some 10) (v := ?v49) rfl rfl (by kernel_rfl) (by kernel_rfl) (by kernel_rfl) (Or.inl ⟨by rfl, ?hy49⟩) hHeld ?rest49
                case hy49 =>
                  intro w' hSw
                  clear hSw
                  go_simp
                  try (with_reducible rfl)
                try simp only [Act.put]
                refine wpAnyH_done (by kernel_rfl) ?_ _
                refine NoPanic.normal ?_
                have hP := hPH.out.appended (by exact hgrow) hown' hat
                clear hHeld hgrow hown' hat hPH hlt2
                generalize (Value.slice (some ⟨g', 0, none⟩) (ins.length + 1) cap') = V' at hP ⊢
                obtain ⟨⟨c0, c1, c2, c3, c4, b0, b1, f0, f1⟩, h0, h1, a1, a2, hF', hR', hBX, hgh, hhX, hVh, -, -, hO'⟩ := hP
                have hF' := hide hF'
                have hR' := hide hR'
                have hBX := hide hBX
                have hO' := hide hO'
                go_wp2
                go_roundw
                case rel =>
                  refine ⟨k + 1, (ins ++ [(now, body)]), (ms ++ [(now, body)]), got, (sent + 1), lost, A', (m + 1), d', _, rfl, by omega, by omega, by go_num, by first | rfl | go_num, by first | rfl | go_num, hide (hK.out.send (by omega)), hide (fun q hq' hm0 => ⟨(hF'.out q hq' hm0).1, ?_, (hF'.out q hq' hm0).2.2⟩), hide ?_, hide ?_, hide ?_, hide ?_⟩
                  · have := (hF'.out q hq' hm0).2.1
                    first | (simp; done) | (simp; omega) | (simp [World.drew]; omega)
                  · repeat (first | (with_reducible exact hR'.out) | (with_reducible refine Rd.drew ?_) | (with_reducible refine Rd.below ?_ (below_drewN _ _)) | (with_reducible refine Rd.alloc ?_ _) | (with_reducible refine Rd.setCell0 ?_ (fun q hq' hm0 => by have := (hF'.out q hq' hm0).1; simp <;> omega) _))
                  · refine ⟨?_, ?_, ?_, ?_, ?_, ?_, ?_, ?_, ?_⟩
                    all_goals go_simp
                  · repeat (first | (with_reducible exact hO'.out) | (with_reducible refine World.ownsRow.drew ?_) | (with_reducible refine own_keep ?_ (below_drewN _ _)) | (with_reducible refine own_keep ?_ (below_new _ _)) | (with_reducible refine ownsRow_setCell_below ?_ (by simp <;> omega) _))
                  · repeat (first | (with_reducible exact hBX.out) | (with_reducible refine Below.drew ?_) | (with_reducible refine Below.drewN ?_ _) | (with_reducible refine Below.alloc ?_ (by first | omega | (simp <;> omega)) _) | (with_reducible refine Below.setCell ?_ (by first | omega | (simp <;> omega)) _))
                case measure => simp [intOf]; omega
              refine AllReadyH.cons (o := _) rfl (fun K' hK' => ?_) AllReadyH.nil
              go_simp
              refine hK'.out _ _ ?_ (fun hHeld => ?_)
              · repeat (first | (with_reducible exact hHeld) | (with_reducible exact hq) | (with_reducible exact keep_refl _) | (with_reducible refine keep_drew2 ?_) | (with_reducible refine keep_set ?_ (by have := hHeld.out.size; simp at this ⊢ <;> omega) _) | (with_reducible refine keep_alloc ?_ _))
              clear hK' K'
              try simp only [Act.put, List.setIfInBounds_toArray, List.set_cons_zero, List.set_cons_succ]
              refine wpAnyH_ready (rs := [12]) (by kernel_rfl) (by simp) ?_
              refine AllReadyH.cons (o := _) rfl (fun K' hK' => ?_) AllReadyH.nil
              go_simp
              refine (send_queue 2 0 1 size depth lost now A m d ms body _ (hR0.out.below hHeld.out) (by omega) hm (by omega) (by decide) (by omega)).mono ?_
              rintro e x1 ⟨A', d', rfl, hf, hR1, hb⟩
              have hq := keep_call hHeld hb
              have hsz : x0.heap.size ≤ x1.heap.size := hq.out.size
              have hR' := hide hR1
              obtain ⟨hcx, hfx⟩ := bcell hb
              clear hb hR1
              go_simp
              refine hK'.out _ _ ?_ (fun hHeld => ?_)
              · repeat (first | (with_reducible exact hHeld) | (with_reducible exact hq) | (with_reducible exact keep_refl _) | (with_reducible refine keep_drew2 ?_) | (with_reducible refine keep_set ?_ (by have := hHeld.out.size; simp at this ⊢ <;> omega) _) | (with_reducible refine keep_alloc ?_ _))
              clear hK' K'
              try simp only [Act.put, List.setIfInBounds_toArray, List.set_cons_zero, List.set_cons_succ]
              refine wpAnyHN_take (i := 13) (oi := _) (some 74) (v := ?v50) rfl rfl (by kernel_rfl) (by kernel_rfl) (by kernel_rfl) (Or.inl ⟨by rfl, ?hy50⟩) hHeld ?rest50
              case hy50 =>
                intro w' hSw
                clear hSw
                go_simp
                try (with_reducible rfl)
              try simp only [Act.put, List.setIfInBounds_toArray, List.set_cons_zero, List.set_cons_succ]
              refine wpAnyHN_take (i := 14) (oi := _) (some 88) (v := ?v51) rfl rfl (by kernel_rfl) (by kernel_rfl) (by kernel_rfl) (Or.inl ⟨by rfl, ?hy51⟩) hHeld ?rest51
              case hy51 =>
                intro w' hSw
                clear hSw
                go_simp
                try (with_reducible rfl)
              try simp only [Act.put, List.setIfInBounds_toArray, List.set_cons_zero, List.set_cons_succ]
              refine wpAnyHN_take (i := 15) (oi := _) (some 89) (v := ?v52) rfl rfl (by kernel_rfl) (by kernel_rfl) (by kernel_rfl) (Or.inl ⟨by rfl, ?hy52⟩) hHeld ?rest52
              case hy52 =>
                intro w' hSw
                clear hSw
                go_simp
                try (with_reducible rfl)
              try simp only [Act.put, List.setIfInBounds_toArray, List.set_cons_zero, List.set_cons_succ]
              refine wpAnyH_ready (rs := [17]) (by kernel_rfl) (by simp) ?_
              refine AllReadyH.cons (o := _) rfl (fun K' hK' => ?_) AllReadyH.nil
              go_simp
              refine hK'.out _ _ ?_ (fun hHeld => ?_)
              · repeat (first | (with_reducible exact hHeld) | (with_reducible exact hq) | (with_reducible exact keep_refl _) | (with_reducible refine keep_drew2 ?_) | (with_reducible refine keep_set ?_ (by have := hHeld.out.size; simp at this ⊢ <;> omega) _) | (with_reducible refine keep_alloc ?_ _))
              clear hK' K'
              try simp only [Act.put, List.setIfInBounds_toArray, List.set_cons_zero, List.set_cons_succ]
              refine wpAnyHN_take (i := 18) (oi := _) (some 19) (v := ?v53) rfl rfl (by kernel_rfl) (by kernel_rfl) (by kernel_rfl) (Or.inl ⟨by rfl, ?hy53⟩) hHeld ?rest53
              case hy53 =>
                intro w' hSw
                clear hSw
                go_simp
                try (with_reducible rfl)
              try simp only [Act.put, List.setIfInBounds_toArray, List.set_cons_zero, List.set_cons_succ]
              refine wpAnyH_done (by kernel_rfl) ?_ _
              refine NoPanic.normal ?_
              have hgw : w1.heap.size + 1 < x0.heap.size := World.block_lt_of_cell? _ _ hS0.out.2.2.2.2.2.1
              have z0 : x1.cell? ⟨x0.heap.size, 0, none⟩ = some (.slice none 0 0) := (hcx _ _ (by simp)).trans (by go_simp)
              have z1 : x1.cell? ⟨x0.heap.size, 1, none⟩ = some (.int .i64 0) := (hcx _ _ (by simp)).trans (by go_simp)
              have hP : PO w w1.heap.size size depth A m d lost x0.heap.size A' (m + 1) d' lost (ms ++ [(now, body)]) b (o + k * 3) now body V ins ((x1.setCell ⟨x0.heap.size, 0, none⟩ (.slice A' (m + 1) d')).setCell ⟨x0.heap.size, 1, none⟩ (.int .i64 lost)) := by
                refine ⟨hS0.out.below hHeld.out, ?_, ?_, (hHeld.out.cell hbl).trans a1, (hHeld.out.cell hbl).trans a2, (fun q hq' hm0 => ⟨by have : x0.heap.size ≤ q.block := (by have := hf q hq'; simp at this; omega); omega, by have := (hR'.out.2.2.2.2 q hq').1 (by omega); simp <;> omega, fun e => by have : x0.heap.size ≤ q.block := (by have := hf q hq'; simp at this; omega); have := (hO0.out.lt _ e).2; omega⟩), ((hR'.out).setCell0 (fun q hq' _ => by have := hf q hq'; simp at this; simp; omega) _).setCell0 (fun q hq' _ => by have := hf q hq'; simp at this; simp; omega) _, hB0.out.trans (hHeld.out.mono hB0.out.size), by omega, ?_, fun e => by have := (hO0.out.lt _ e).2; omega, hbw, hsw, ownsRow_setCell_other (ownsRow_setCell_other (own_keep hO0.out hq.out) (fun e => by have := (hO0.out.lt _ e).2; simp at this) _) (fun e => by have := (hO0.out.lt _ e).2; simp at this) _⟩
                · go_simp
                · go_simp
                · have := World.block_lt_of_cell? _ _ z0; simpa using this
              generalize ((x1.setCell ⟨x0.heap.size, 0, none⟩ (.slice A' (m + 1) d')).setCell ⟨x0.heap.size, 1, none⟩ (.int .i64 lost)) = X at hP ⊢
              generalize x0.heap.size = hh at hP ⊢
              clear hHeld hq hcx hfx hf hR' a1 a2 hS0 hF0 hR0 hO0
              have hPH := hide hP
              obtain ⟨⟨c0, c1, c2, c3, c4, b0, b1, f0, f1⟩, h0, h1, a1, a2, hF', hR', hBX, hgh, hhX, hVh, -, -, hO'⟩ := hP
              have hO' := hide hO'
              have hbX : b < X.heap.size := World.block_lt_of_cell? _ _ a1
              have hV : V.ownBlock ≠ some b := fun e => by have := (hO'.out.lt _ e).1; omega
              clear hF' hR' hBX c0 c1 c2 c3 c4 b0 b1 f0 f1 h0 h1
              go_wp2_with fail
              refine wp_region_noPanic ?_
              refine wp_region_held_drew (S := fun w' => w'.cell? ⟨b, o + k * 3 + 1, none⟩ = some (.int .u64 now) ∧ w'.cell? ⟨b, o + k * 3 + 2, none⟩ = some (.string body)) (by kernel_rfl) (⟨a1, a2⟩) (fun hHeld => ?_)
              refine wpAnyHN_take (i := 0) (oi := _) (some 97) (v := ?v54) rfl rfl (by kernel_rfl) (by kernel_rfl) (by kernel_rfl) (Or.inl ⟨by rfl, ?hy54⟩) hHeld ?rest54
              case hy54 =>
                intro w' hSw
                clear hSw
                go_simp
                try (with_reducible rfl)
              try simp only [Act.put, List.setIfInBounds_toArray, List.set_cons_zero, List.set_cons_succ]
              refine wpAnyHN_take (i := 1) (oi := _) (some 98) (v := ?v55) rfl rfl (by kernel_rfl) (by kernel_rfl) (by kernel_rfl) (Or.inl ⟨by rfl, ?hy55⟩) hHeld ?rest55
              case hy55 =>
                intro w' hSw
                clear hSw
                go_simp
                try (with_reducible rfl)
              try simp only [Act.put, List.setIfInBounds_toArray, List.set_cons_zero, List.set_cons_succ]
              refine wpAnyHN_take (i := 2) (oi := _) (some 99) (v := ?v56) rfl rfl (by kernel_rfl) (by kernel_rfl) (by kernel_rfl) (Or.inl ⟨by rfl, ?hy56⟩) hHeld ?rest56
              case hy56 =>
                intro w' hSw
                clear hSw
                go_simp
                try (with_reducible rfl)
              try simp only [Act.put, List.setIfInBounds_toArray, List.set_cons_zero, List.set_cons_succ]
              refine wpAnyHN_take (i := 3) (oi := _) (some 100) (v := ?v57) rfl rfl (by kernel_rfl) (by kernel_rfl) (by kernel_rfl) (Or.inl ⟨by rfl, ?hy57⟩) hHeld ?rest57
              case hy57 =>
                intro w' hSw
                clear hSw
                go_simp
                try (with_reducible rfl)
              try simp only [Act.put, List.setIfInBounds_toArray, List.set_cons_zero, List.set_cons_succ]
              refine wpAnyHN_take (i := 4) (oi := _) (some 101) (v := ?v58) rfl rfl (by kernel_rfl) (by kernel_rfl) (by kernel_rfl) (Or.inl ⟨by rfl, ?hy58⟩) hHeld ?rest58
              case hy58 =>
                intro w' hSw
                clear hSw
                go_simp
                try (with_reducible rfl)
              try simp only [Act.put, List.setIfInBounds_toArray, List.set_cons_zero, List.set_cons_succ]
              refine wpAnyHN_take (i := 5) (oi := _) (some 102) (v := ?v59) rfl rfl (by kernel_rfl) (by kernel_rfl) (by kernel_rfl) (Or.inl ⟨by rfl, ?hy59⟩) hHeld ?rest59
              case hy59 =>
                intro w' hSw
                obtain ⟨q1, q2⟩ := hSw
                go_simp
                try (with_reducible rfl)
              try simp only [Act.put, List.setIfInBounds_toArray, List.set_cons_zero, List.set_cons_succ]
              refine wpAnyHN_take (i := 6) (oi := _) (some 103) (v := ?v60) rfl rfl (by kernel_rfl) (by kernel_rfl) (by kernel_rfl) (Or.inl ⟨by rfl, ?hy60⟩) hHeld ?rest60
              case hy60 =>
                intro w' hSw
                clear hSw
                go_simp
                try (with_reducible rfl)
              try simp only [Act.put, List.setIfInBounds_toArray, List.set_cons_zero, List.set_cons_succ]
              refine wpAnyHN_take (i := 7) (oi := _) (some 104) (v := ?v61) rfl rfl (by kernel_rfl) (by kernel_rfl) (by kernel_rfl) (Or.inl ⟨by rfl, ?hy61⟩) hHeld ?rest61
              case hy61 =>
                intro w' hSw
                clear hSw
                go_simp
                try (with_reducible rfl)
              try simp only [Act.put, List.setIfInBounds_toArray, List.set_cons_zero, List.set_cons_succ]
              refine wpAnyHN_take (i := 8) (oi := _) (some 105) (v := ?v62) rfl rfl (by kernel_rfl) (by kernel_rfl) (by kernel_rfl) (Or.inl ⟨by rfl, ?hy62⟩) hHeld ?rest62
              case hy62 =>
                intro w' hSw
                clear hSw
                go_simp
                try (with_reducible rfl)
              try simp only [Act.put, List.setIfInBounds_toArray, List.set_cons_zero, List.set_cons_succ]
              refine wpAnyHN_take (i := 9) (oi := _) (some 106) (v := ?v63) rfl rfl (by kernel_rfl) (by kernel_rfl) (by kernel_rfl) (Or.inl ⟨by rfl, ?hy63⟩) hHeld ?rest63
              case hy63 =>
                intro w' hSw
                clear hSw
                go_simp
                try (with_reducible rfl)
              try simp only [Act.put, List.setIfInBounds_toArray, List.set_cons_zero, List.set_cons_succ]
              refine wpAnyHN_take (i := 10) (oi := _) (some 107) (v := ?v64) rfl rfl (by kernel_rfl) (by kernel_rfl) (by kernel_rfl) (Or.inl ⟨by rfl, ?hy64⟩) hHeld ?rest64
              case hy64 =>
                intro w' hSw
                obtain ⟨q1, q2⟩ := hSw
                go_simp
                try (with_reducible rfl)
              try simp only [Act.put, List.setIfInBounds_toArray, List.set_cons_zero, List.set_cons_succ]
              refine wpAnyHN_take (i := 11) (oi := _) (some 108) (v := ?v65) rfl rfl (by kernel_rfl) (by kernel_rfl) (by kernel_rfl) (Or.inl ⟨by rfl, ?hy65⟩) hHeld ?rest65
              case hy65 =>
                intro w' hSw
                clear hSw
                go_simp
                try (with_reducible rfl)
              try simp only [Act.put, List.setIfInBounds_toArray, List.set_cons_zero, List.set_cons_succ]
              refine wpAnyH_ready (rs := [12]) (by kernel_rfl) (by simp) ?_
              refine AllReadyH.cons (o := _) rfl (fun K' hK' => ?_) AllReadyH.nil
              go_simp
              refine hK'.out _ _ ?_ (fun hHeld => ?_)
              · exact ⟨(World.cell?_alloc_lt _ _ _ (by first | exact hbX | (show b < X.heap.size; exact hbX))).trans hHeld.1, (World.cell?_alloc_lt _ _ _ (by first | exact hbX | (show b < X.heap.size; exact hbX))).trans hHeld.2⟩
              clear hK' K'
              try simp only [Act.put, List.setIfInBounds_toArray, List.set_cons_zero, List.set_cons_succ]
              refine wpAnyH_ready (rs := [13]) (by kernel_rfl) (by simp) ?_
              refine AllReadyH.cons (o := _) rfl (fun K' hK' => ?_) AllReadyH.nil
              refine step_append_lies _ rfl (.tmp 97) (.tmp 109) 24 (by rfl) (w1.heap.size + 1 + 1) 39 i0 _ 2 24 Try.underlying24 hi hz0 hz1 hz2 rfl (by omega) V ins.length (cellsM ins) (by rfl) (hO'.out.drew.alloc _) ⟨X.heap.size, 0, none⟩ 1 1 [.int .u64 now, .string body] (by rfl) rfl (two_new (by rfl)) (by simp [Value.oneCell']) (by omega) (by unfold maxLen; omega) (by omega) (by simp <;> omega) (X.heap.size + 1) (by simp) ?_
              intro g' cap' x2 hown' hgrow hat hlt2
              refine hK'.out _ _ ?_ (fun hHeld => ?_)
              · exact ⟨(hgrow.cell_far ⟨b, o + k * 3 + 1, none⟩ (by simp <;> omega) (fun e => hV e.symm)).trans hHeld.1, (hgrow.cell_far ⟨b, o + k * 3 + 2, none⟩ (by simp <;> omega) (fun e => hV e.symm)).trans hHeld.2⟩
              clear hK' K'
              try simp only [Act.put, List.setIfInBounds_toArray]
              refine wpAnyHN_take (i := 14) (oi := _) (some 10) (v := ?v66) rfl rfl (by kernel_rfl) (by kernel_rfl) (by kernel_rfl) (Or.inl ⟨by rfl, ?hy66⟩) hHeld ?rest66
              case hy66 =>
                intro w' hSw
                clear hSw
                go_simp
                try (with_reducible rfl)
              try simp only [Act.put]
              refine wpAnyH_done (by kernel_rfl) ?_ _
              refine NoPanic.normal ?_
              have hP := hPH.out.appended (by exact hgrow) hown' hat
              clear hHeld hgrow hown' hat hPH hlt2
              generalize (Value.slice (some ⟨g', 0, none⟩) (ins.length + 1) cap') = V' at hP ⊢
              obtain ⟨⟨c0, c1, c2, c3, c4, b0, b1, f0, f1⟩, h0, h1, a1, a2, hF', hR', hBX, hgh, hhX, hVh, -, -, hO'⟩ := hP
              have hF' := hide hF'
              have hR' := hide hR'
              have hBX := hide hBX
              have hO' := hide hO'
              go_wp2
              go_roundw
              case rel =>
                refine ⟨k + 1, (ins ++ [(now, body)]), (ms ++ [(now, body)]), got, (sent + 1), lost, A', (m + 1), d', _, rfl, by omega, by omega, by go_num, by first | rfl | go_num, by first | rfl | go_num, hide (hK.out.send (by omega)), hide (fun q hq' hm0 => ⟨(hF'.out q hq' hm0).1, ?_, (hF'.out q hq' hm0).2.2⟩), hide ?_, hide ?_, hide ?_, hide ?_⟩
                · have := (hF'.out q hq' hm0).2.1
                  first | (simp; done) | (simp; omega) | (simp [World.drew]; omega)
                · repeat (first | (with_reducible exact hR'.out) | (with_reducible refine Rd.drew ?_) | (with_reducible refine Rd.below ?_ (below_drewN _ _)) | (with_reducible refine Rd.alloc ?_ _) | (with_reducible refine Rd.setCell0 ?_ (fun q hq' hm0 => by have := (hF'.out q hq' hm0).1; simp <;> omega) _))
                · refine ⟨?_, ?_, ?_, ?_, ?_, ?_, ?_, ?_, ?_⟩
                  all_goals go_simp
                · repeat (first | (with_reducible exact hO'.out) | (with_reducible refine World.ownsRow.drew ?_) | (with_reducible refine own_keep ?_ (below_drewN _ _)) | (with_reducible refine own_keep ?_ (below_new _ _)) | (with_reducible refine ownsRow_setCell_below ?_ (by simp <;> omega) _))
                · repeat (first | (with_reducible exact hBX.out) | (with_reducible refine Below.drew ?_) | (with_reducible refine Below.drewN ?_ _) | (with_reducible refine Below.alloc ?_ (by first | omega | (simp <;> omega)) _) | (with_reducible refine Below.setCell ?_ (by first | omega | (simp <;> omega)) _))
              case measure => simp [intOf]; omega
            · refine wp_region_noPanic ?_
              refine wp_region_held_drew (S := fun w' => Hid (Below x0.heap.size x0 w')) (by kernel_rfl) (keep_drew _) (fun hHeld => ?_)
              refine wpAnyHN_take (i := 0) (oi := _) (some 75) (v := ?v67) rfl rfl (by kernel_rfl) (by kernel_rfl) (by kernel_rfl) (Or.inl ⟨by rfl, ?hy67⟩) hHeld ?rest67
              case hy67 =>
                intro w' hSw
                obtain ⟨c0, c1, c2, c3, c4, -, -, -, -⟩ := hS0.out.below hSw.out
                clear hSw
                go_simp
                try (with_reducible rfl)
              try simp only [Act.put, List.setIfInBounds_toArray, List.set_cons_zero, List.set_cons_succ]
              refine wpAnyHN_take (i := 1) (oi := _) (some 76) (v := ?v68) rfl rfl (by kernel_rfl) (by kernel_rfl) (by kernel_rfl) (Or.inl ⟨by rfl, ?hy68⟩) hHeld ?rest68
              case hy68 =>
                intro w' hSw
                obtain ⟨-, -, -, -, -, b0, b1, -, -⟩ := hS0.out.below hSw.out
                clear hSw
                go_simp
                try (with_reducible rfl)
              try simp only [Act.put, List.setIfInBounds_toArray, List.set_cons_zero, List.set_cons_succ]
              refine wpAnyHN_take (i := 2) (oi := _) (some 77) (v := ?v69) rfl rfl (by kernel_rfl) (by kernel_rfl) (by kernel_rfl) (Or.inl ⟨by rfl, ?hy69⟩) hHeld ?rest69
              case hy69 =>
                intro w' hSw
                clear hSw
                go_simp
                try (with_reducible rfl)
              try simp only [Act.put, List.setIfInBounds_toArray, List.set_cons_zero, List.set_cons_succ]
              refine wpAnyHN_take (i := 3) (oi := _) (some 78) (v := ?v70) rfl rfl (by kernel_rfl) (by kernel_rfl) (by kernel_rfl) (Or.inl ⟨by rfl, ?hy70⟩) hHeld ?rest70
              case hy70 =>
                intro w' hSw
                clear hSw
                go_simp
                try (with_reducible rfl)
              try simp only [Act.put, List.setIfInBounds_toArray, List.set_cons_zero, List.set_cons_succ]
              refine wpAnyHN_take (i := 4) (oi := _) (some 79) (v := ?v71) rfl rfl (by kernel_rfl) (by kernel_rfl) (by kernel_rfl) (Or.inl ⟨by rfl, ?hy71⟩) hHeld ?rest71
              case hy71 =>
                intro w' hSw
                clear hSw
                go_simp
                try (with_reducible rfl)
              try simp only [Act.put, List.setIfInBounds_toArray, List.set_cons_zero, List.set_cons_succ]
              refine wpAnyHN_take (i := 5) (oi := _) (some 80) (v := ?v72) rfl rfl (by kernel_rfl) (by kernel_rfl) (by kernel_rfl) (Or.inl ⟨by rfl, ?hy72⟩) hHeld ?rest72
              case hy72 =>
                intro w' hSw
                clear hSw
                go_simp
                try (with_reducible rfl)
              try simp only [Act.put, List.setIfInBounds_toArray, List.set_cons_zero, List.set_cons_succ]
              refine wpAnyHN_take (i := 6) (oi := _) (some 81) (v := ?v73) rfl rfl (by kernel_rfl) (by kernel_rfl) (by kernel_rfl) (Or.inl ⟨by rfl, ?hy73⟩) hHeld ?rest73
              case hy73 =>
                intro w' hSw
                have a1' := (hSw.out.cell hbl).trans a1
                clear hSw
                go_simp
                try (with_reducible rfl)
              try simp only [Act.put, List.setIfInBounds_toArray, List.set_cons_zero, List.set_cons_succ]
              refine wpAnyHN_take (i := 7) (oi := _) (some 82) (v := ?v74) rfl rfl (by kernel_rfl) (by kernel_rfl) (by kernel_rfl) (Or.inl ⟨by rfl, ?hy74⟩) hHeld ?rest74
              case hy74 =>
                intro w' hSw
                clear hSw
                go_simp
                try (with_reducible rfl)
              try simp only [Act.put, List.setIfInBounds_toArray, List.set_cons_zero, List.set_cons_succ]
              refine wpAnyHN_take (i := 8) (oi := _) (some 83) (v := ?v75) rfl rfl (by kernel_rfl) (by kernel_rfl) (by kernel_rfl) (Or.inl ⟨by rfl, ?hy75⟩) hHeld ?rest75
              case hy75 =>
                intro w' hSw
                clear hSw
                go_simp
                try (with_reducible rfl)
              try simp only [Act.put, List.setIfInBounds_toArray, List.set_cons_zero, List.set_cons_succ]
              refine wpAnyHN_take (i := 9) (oi := _) (some 84) (v := ?v76) rfl rfl (by kernel_rfl) (by kernel_rfl) (by kernel_rfl) (Or.inl ⟨by rfl, ?hy76⟩) hHeld ?rest76
              case hy76 =>
                intro w' hSw
                clear hSw
                go_simp
                try (with_reducible rfl)
              try simp only [Act.put, List.setIfInBounds_toArray, List.set_cons_zero, List.set_cons_succ]
              refine wpAnyHN_take (i := 10) (oi := _) (some 85) (v := ?v77) rfl rfl (by kernel_rfl) (by kernel_rfl) (by kernel_rfl) (Or.inl ⟨by rfl, ?hy77⟩) hHeld ?rest77
              case hy77 =>
                intro w' hSw
                clear hSw
                go_simp
                try (with_reducible rfl)
              try simp only [Act.put, List.setIfInBounds_toArray, List.set_cons_zero, List.set_cons_succ]
              refine wpAnyHN_take (i := 11) (oi := _) (some 86) (v := ?v78) rfl rfl (by kernel_rfl) (by kernel_rfl) (by kernel_rfl) (Or.inl ⟨by rfl, ?hy78⟩) hHeld ?rest78
              case hy78 =>
                intro w' hSw
                have a2' := (hSw.out.cell hbl).trans a2
                clear hSw
                go_simp
                try (with_reducible rfl)
              try simp only [Act.put, List.setIfInBounds_toArray, List.set_cons_zero, List.set_cons_succ]
              refine wpAnyH_ready (rs := [12, 16]) (by kernel_rfl) (by simp) ?_
              refine AllReadyH.cons (o := _) rfl (fun K' hK' => ?_) ?_
              · go_simp
                refine (send_lost2 2 0 1 size depth now lost A m d body _ hm hml (by omega) (by decide) (by omega) (by omega)).mono ?_
                rintro e x1 ⟨rfl, hb⟩
                have hq := keep_call hHeld hb
                have hsz : x0.heap.size ≤ x1.heap.size := hq.out.size
                obtain ⟨hcx, hfx⟩ := bcell hb
                clear hb
                go_simp
                refine hK'.out _ _ ?_ (fun hHeld => ?_)
                · repeat (first | (with_reducible exact hHeld) | (with_reducible exact hq) | (with_reducible exact keep_refl _) | (with_reducible refine keep_drew2 ?_) | (with_reducible refine keep_set ?_ (by have := hHeld.out.size; simp at this ⊢ <;> omega) _) | (with_reducible refine keep_alloc ?_ _))
                clear hK' K'
                try simp only [Act.put, List.setIfInBounds_toArray, List.set_cons_zero, List.set_cons_succ]
                refine wpAnyHN_take (i := 13) (oi := _) (some 74) (v := ?v79) rfl rfl (by kernel_rfl) (by kernel_rfl) (by kernel_rfl) (Or.inl ⟨by rfl, ?hy79⟩) hHeld ?rest79
                case hy79 =>
                  intro w' hSw
                  clear hSw
                  go_simp
                  try (with_reducible rfl)
                try simp only [Act.put, List.setIfInBounds_toArray, List.set_cons_zero, List.set_cons_succ]
                refine wpAnyHN_take (i := 14) (oi := _) (some 88) (v := ?v80) rfl rfl (by kernel_rfl) (by kernel_rfl) (by kernel_rfl) (Or.inl ⟨by rfl, ?hy80⟩) hHeld ?rest80
                case hy80 =>
                  intro w' hSw
                  clear hSw
                  go_simp
                  try (with_reducible rfl)
                try simp only [Act.put, List.setIfInBounds_toArray, List.set_cons_zero, List.set_cons_succ]
                refine wpAnyHN_take (i := 15) (oi := _) (some 89) (v := ?v81) rfl rfl (by kernel_rfl) (by kernel_rfl) (by kernel_rfl) (Or.inl ⟨by rfl, ?hy81⟩) hHeld ?rest81
                case hy81 =>
                  intro w' hSw
                  clear hSw
                  go_simp
                  try (with_reducible rfl)
                try simp only [Act.put, List.setIfInBounds_toArray, List.set_cons_zero, List.set_cons_succ]
                refine wpAnyH_ready (rs := [16]) (by kernel_rfl) (by simp) ?_
                refine AllReadyH.cons (o := _) rfl (fun K' hK' => ?_) AllReadyH.nil
                go_simp
                refine hK'.out _ _ ?_ (fun hHeld => ?_)
                · repeat (first | (with_reducible exact hHeld) | (with_reducible exact hq) | (with_reducible exact keep_refl _) | (with_reducible refine keep_drew2 ?_) | (with_reducible refine keep_set ?_ (by have := hHeld.out.size; simp at this ⊢ <;> omega) _) | (with_reducible refine keep_alloc ?_ _))
                clear hK' K'
                try simp only [Act.put, List.setIfInBounds_toArray, List.set_cons_zero, List.set_cons_succ]
                refine wpAnyH_ready (rs := [17]) (by kernel_rfl) (by simp) ?_
                refine AllReadyH.cons (o := _) rfl (fun K' hK' => ?_) AllReadyH.nil
                go_simp
                refine hK'.out _ _ ?_ (fun hHeld => ?_)
                · repeat (first | (with_reducible exact hHeld) | (with_reducible exact hq) | (with_reducible exact keep_refl _) | (with_reducible refine keep_drew2 ?_) | (with_reducible refine keep_set ?_ (by have := hHeld.out.size; simp at this ⊢ <;> omega) _) | (with_reducible refine keep_alloc ?_ _))
                clear hK' K'
                try simp only [Act.put, List.setIfInBounds_toArray, List.set_cons_zero, List.set_cons_succ]
                refine wpAnyHN_take (i := 18) (oi := _) (some 19) (v := ?v82) rfl rfl (by kernel_rfl) (by kernel_rfl) (by kernel_rfl) (Or.inl ⟨by rfl, ?hy82⟩) hHeld ?rest82
                case hy82 =>
                  intro w' hSw
                  clear hSw
                  go_simp
                  try (with_reducible rfl)
                try simp only [Act.put, List.setIfInBounds_toArray, List.set_cons_zero, List.set_cons_succ]
                refine wpAnyH_done (by kernel_rfl) ?_ _
                refine NoPanic.normal ?_
                have hgw : w1.heap.size + 1 < x0.heap.size := World.block_lt_of_cell? _ _ hS0.out.2.2.2.2.2.1
                have hP : PO w w1.heap.size size depth A m d lost x1.heap.size A m d ((lost : Int) + 1) ms b (o + k * 3) now body V ins (x1.alloc (.cells #[.slice A m d, .int .i64 ((lost : Int) + 1)] 26)) := by
                  refine ⟨hS0.out.below hHeld.out, ?_, ?_, (hHeld.out.cell hbl).trans a1, (hHeld.out.cell hbl).trans a2, (fun q hq' hm0 => ⟨(hF0.out q hq' hm0).1, by have := (hF0.out q hq' hm0).2.1; simp <;> omega, (hF0.out q hq' hm0).2.2⟩), (hR0.out.below (hq.out)).alloc _, hB0.out.trans (hHeld.out.mono hB0.out.size), by omega, ?_, fun e => by have := (hO0.out.lt _ e).2; omega, hbw, hsw, (own_keep hO0.out hq.out).alloc _⟩
                  · go_simp
                  · go_simp
                  · have := hHeld.out.size; simp at this ⊢ <;> omega
                generalize (x1.alloc (.cells #[.slice A m d, .int .i64 ((lost : Int) + 1)] 26)) = X at hP ⊢
                generalize x1.heap.size = hh at hP ⊢
                clear hHeld hq hcx hfx  a1 a2 hS0 hF0 hR0 hO0
                obtain ⟨⟨c0, c1, c2, c3, c4, b0, b1, f0, f1⟩, h0, h1, a1, a2, hF', hR', hBX, hgh, hhX, hVh, -, -, hO'⟩ := hP
                have hF' := hide hF'
                have hR' := hide hR'
                have hBX := hide hBX
                have hO' := hide hO'
                go_wp2
                go_roundw
                case rel =>
                  refine ⟨k + 1, ins, ms, got, (sent + 1), (lost + 1), A, m, d, _, rfl, by omega, by omega, by go_num, by first | rfl | go_num, by first | rfl | go_num, hide hK.out.lost, hide (fun q hq' hm0 => ⟨(hF'.out q hq' hm0).1, ?_, (hF'.out q hq' hm0).2.2⟩), hide ?_, hide ?_, hide ?_, hide ?_⟩
                  · have := (hF'.out q hq' hm0).2.1
                    first | (simp; done) | (simp; omega) | (simp [World.drew]; omega)
                  · repeat (first | (with_reducible exact hR'.out) | (with_reducible refine Rd.drew ?_) | (with_reducible refine Rd.below ?_ (below_drewN _ _)) | (with_reducible refine Rd.alloc ?_ _) | (with_reducible refine Rd.setCell0 ?_ (fun q hq' hm0 => by have := (hF'.out q hq' hm0).1; simp <;> omega) _))
                  · refine ⟨?_, ?_, ?_, ?_, ?_, ?_, ?_, ?_, ?_⟩
                    all_goals go_simp
                  · repeat (first | (with_reducible exact hO'.out) | (with_reducible refine World.ownsRow.drew ?_) | (with_reducible refine own_keep ?_ (below_drewN _ _)) | (with_reducible refine own_keep ?_ (below_new _ _)) | (with_reducible refine ownsRow_setCell_below ?_ (by simp <;> omega) _))
                  · repeat (first | (with_reducible exact hBX.out) | (with_reducible refine Below.drew ?_) | (with_reducible refine Below.drewN ?_ _) | (with_reducible refine Below.alloc ?_ (by first | omega | (simp <;> omega)) _) | (with_reducible refine Below.setCell ?_ (by first | omega | (simp <;> omega)) _))
                case measure => simp [intOf]; omega
              refine AllReadyH.cons (o := _) rfl (fun K' hK' => ?_) AllReadyH.nil
              go_simp
              refine hK'.out _ _ ?_ (fun hHeld => ?_)
              · repeat (first | (with_reducible exact hHeld) | (with_reducible exact hq) | (with_reducible exact keep_refl _) | (with_reducible refine keep_drew2 ?_) | (with_reducible refine keep_set ?_ (by have := hHeld.out.size; simp at this ⊢ <;> omega) _) | (with_reducible refine keep_alloc ?_ _))
              clear hK' K'
              try simp only [Act.put, List.setIfInBounds_toArray, List.set_cons_zero, List.set_cons_succ]
              refine wpAnyH_ready (rs := [12]) (by kernel_rfl) (by simp) ?_
              refine AllReadyH.cons (o := _) rfl (fun K' hK' => ?_) AllReadyH.nil
              go_simp
              refine (send_lost2 2 0 1 size depth now lost A m d body _ hm hml (by omega) (by decide) (by omega) (by omega)).mono ?_
              rintro e x1 ⟨rfl, hb⟩
              have hq := keep_call hHeld hb
              have hsz : x0.heap.size ≤ x1.heap.size := hq.out.size
              obtain ⟨hcx, hfx⟩ := bcell hb
              clear hb
              go_simp
              refine hK'.out _ _ ?_ (fun hHeld => ?_)
              · repeat (first | (with_reducible exact hHeld) | (with_reducible exact hq) | (with_reducible exact keep_refl _) | (with_reducible refine keep_drew2 ?_) | (with_reducible refine keep_set ?_ (by have := hHeld.out.size; simp at this ⊢ <;> omega) _) | (with_reducible refine keep_alloc ?_ _))
              clear hK' K'
              try simp only [Act.put, List.setIfInBounds_toArray, List.set_cons_zero, List.set_cons_succ]
              refine wpAnyHN_take (i := 13) (oi := _) (some 74) (v := ?v83) rfl rfl (by kernel_rfl) (by kernel_rfl) (by kernel_rfl) (Or.inl ⟨by rfl, ?hy83⟩) hHeld ?rest83
              case hy83 =>
                intro w' hSw
                clear hSw
                go_simp
                try (with_reducible rfl)
              try simp only [Act.put, List.setIfInBounds_toArray, List.set_cons_zero, List.set_cons_succ]
              refine wpAnyHN_take (i := 14) (oi := _) (some 88) (v := ?v84) rfl rfl (by kernel_rfl) (by kernel_rfl) (by kernel_rfl) (Or.inl ⟨by rfl, ?hy84⟩) hHeld ?rest84
              case hy84 =>
                intro w' hSw
                clear hSw
                go_simp
                try (with_reducible rfl)
              try simp only [Act.put, List.setIfInBounds_toArray, List.set_cons_zero, List.set_cons_succ]
              refine wpAnyHN_take (i := 15) (oi := _) (some 89) (v := ?v85) rfl rfl (by kernel_rfl) (by kernel_rfl) (by kernel_rfl) (Or.inl ⟨by rfl, ?hy85⟩) hHeld ?rest85
              case hy85 =>
                intro w' hSw
                clear hSw
                go_simp
                try (with_reducible rfl)
              try simp only [Act.put, List.setIfInBounds_toArray, List.set_cons_zero, List.set_cons_succ]
              refine wpAnyH_ready (rs := [17]) (by kernel_rfl) (by simp) ?_
              refine AllReadyH.cons (o := _) rfl (fun K' hK' => ?_) AllReadyH.nil
              go_simp
              refine hK'.out _ _ ?_ (fun hHeld => ?_)
              · repeat (first | (with_reducible exact hHeld) | (with_reducible exact hq) | (with_reducible exact keep_refl _) | (with_reducible refine keep_drew2 ?_) | (with_reducible refine keep_set ?_ (by have := hHeld.out.size; simp at this ⊢ <;> omega) _) | (with_reducible refine keep_alloc ?_ _))
              clear hK' K'
              try simp only [Act.put, List.setIfInBounds_toArray, List.set_cons_zero, List.set_cons_succ]
              refine wpAnyHN_take (i := 18) (oi := _) (some 19) (v := ?v86) rfl rfl (by kernel_rfl) (by kernel_rfl) (by kernel_rfl) (Or.inl ⟨by rfl, ?hy86⟩) hHeld ?rest86
              case hy86 =>
                intro w' hSw
                clear hSw
                go_simp
                try (with_reducible rfl)
              try simp only [Act.put, List.setIfInBounds_toArray, List.set_cons_zero, List.set_cons_succ]
              refine wpAnyH_done (by kernel_rfl) ?_ _
              refine NoPanic.normal ?_
              have hgw : w1.heap.size + 1 < x0.heap.size := World.block_lt_of_cell? _ _ hS0.out.2.2.2.2.2.1
              have z0 : x1.cell? ⟨x0.heap.size, 0, none⟩ = some (.slice none 0 0) := (hcx _ _ (by simp)).trans (by go_simp)
              have z1 : x1.cell? ⟨x0.heap.size, 1, none⟩ = some (.int .i64 0) := (hcx _ _ (by simp)).trans (by go_simp)
              have hP : PO w w1.heap.size size depth A m d lost x0.heap.size A m d ((lost : Int) + 1) ms b (o + k * 3) now body V ins ((x1.setCell ⟨x0.heap.size, 0, none⟩ (.slice A m d)).setCell ⟨x0.heap.size, 1, none⟩ (.int .i64 ((lost : Int) + 1))) := by
                refine ⟨hS0.out.below hHeld.out, ?_, ?_, (hHeld.out.cell hbl).trans a1, (hHeld.out.cell hbl).trans a2, (fun q hq' hm0 => ⟨(hF0.out q hq' hm0).1, by have := (hF0.out q hq' hm0).2.1; simp <;> omega, (hF0.out q hq' hm0).2.2⟩), ((hR0.out.below hq.out).setCell0 (fun q hq' hm0 => by have := (hF0.out q hq' hm0).2.1; simp <;> omega) _).setCell0 (fun q hq' hm0 => by have := (hF0.out q hq' hm0).2.1; simp <;> omega) _, hB0.out.trans (hHeld.out.mono hB0.out.size), by omega, ?_, fun e => by have := (hO0.out.lt _ e).2; omega, hbw, hsw, ownsRow_setCell_other (ownsRow_setCell_other (own_keep hO0.out hq.out) (fun e => by have := (hO0.out.lt _ e).2; simp at this) _) (fun e => by have := (hO0.out.lt _ e).2; simp at this) _⟩
                · go_simp
                · go_simp
                · have := World.block_lt_of_cell? _ _ z0; simpa using this
              generalize ((x1.setCell ⟨x0.heap.size, 0, none⟩ (.slice A m d)).setCell ⟨x0.heap.size, 1, none⟩ (.int .i64 ((lost : Int) + 1))) = X at hP ⊢
              generalize x0.heap.size = hh at hP ⊢
              clear hHeld hq hcx hfx  a1 a2 hS0 hF0 hR0 hO0
              obtain ⟨⟨c0, c1, c2, c3, c4, b0, b1, f0, f1⟩, h0, h1, a1, a2, hF', hR', hBX, hgh, hhX, hVh, -, -, hO'⟩ := hP
              have hF' := hide hF'
              have hR' := hide hR'
              have hBX := hide hBX
              have hO' := hide hO'
              go_wp2
              go_roundw
              case rel =>
                refine ⟨k + 1, ins, ms, got, (sent + 1), (lost + 1), A, m, d, _, rfl, by omega, by omega, by go_num, by first | rfl | go_num, by first | rfl | go_num, hide hK.out.lost, hide (fun q hq' hm0 => ⟨(hF'.out q hq' hm0).1, ?_, (hF'.out q hq' hm0).2.2⟩), hide ?_, hide ?_, hide ?_, hide ?_⟩
                · have := (hF'.out q hq' hm0).2.1
                  first | (simp; done) | (simp; omega) | (simp [World.drew]; omega)
                · repeat (first | (with_reducible exact hR'.out) | (with_reducible refine Rd.drew ?_) | (with_reducible refine Rd.below ?_ (below_drewN _ _)) | (with_reducible refine Rd.alloc ?_ _) | (with_reducible refine Rd.setCell0 ?_ (fun q hq' hm0 => by have := (hF'.out q hq' hm0).1; simp <;> omega) _))
                · refine ⟨?_, ?_, ?_, ?_, ?_, ?_, ?_, ?_, ?_⟩
                  all_goals go_simp
                · repeat (first | (with_reducible exact hO'.out) | (with_reducible refine World.ownsRow.drew ?_) | (with_reducible refine own_keep ?_ (below_drewN _ _)) | (with_reducible refine own_keep ?_ (below_new _ _)) | (with_reducible refine ownsRow_setCell_below ?_ (by simp <;> omega) _))
                · repeat (first | (with_reducible exact hBX.out) | (with_reducible refine Below.drew ?_) | (with_reducible refine Below.drewN ?_ _) | (with_reducible refine Below.alloc ?_ (by first | omega | (simp <;> omega)) _) | (with_reducible refine Below.setCell ?_ (by first | omega | (simp <;> omega)) _))
              case measure => simp [intOf]; omega
      · have hx1 : (k : Int) < (n : Int) := by omega
        have hx2 : ¬ (k : Int) < 300 := by omega
        obtain ⟨c0, c1, c2, c3, c4, b0, b1, f0, f1⟩ := hS'.out
        obtain ⟨y1, y2, y3, y4, y5⟩ := hK.out
        have y6 : got + m = ins.length := by
          have := hR.out.1
          rw [y2] at this
          simp at this
          omega
        have y7 : (m : Int) ≤ depth := by rw [← hR.out.1]; exact y4
        have e1 : IntKind.i64.wrap ((got : Int) + (m : Int)) = (ins.length : Int) := by rw [IntWalk.i64_in _ (by omega)]; omega
        have e2 : IntKind.i64.wrap ((ins.length : Int) + (lost : Int)) = (sent : Int) := by rw [IntWalk.i64_in _ (by omega)]; omega
        have hml : m ≤ maxLen := by unfold maxLen; omega
        obtain ⟨Ai, ci, rfl, -⟩ := own_slice hO.out
        have hKE : KE w w1.heap.size A m d lost wr.drew := ⟨b0, b1, hB.out.drew, hB.out.size⟩
        clear hB hO hR hF hK hS' y2 y4 c0 c1 c2 c3 c4 f0 f1
        have hEnd := hide (fun (w' : World) (h : KE w w1.heap.size A m d lost w') => h.2.2.1.out)
        go_wp2_with fail
        refine wp_region_noPanic ?_
        refine wp_region_U (S := KE w w1.heap.size A m d lost) (by kernel_rfl) (hKE) ?_
        refine wpAnyUN_take (i := 0) (oi := _) (some 112) (v := ?v87) rfl rfl (by kernel_rfl) (by kernel_rfl) (by kernel_rfl) (Or.inl ⟨by rfl, ?hy87⟩) ?rest87
        case hy87 =>
          intro w' hSw
          go_simp
          refine lands_value ?_ hSw
          with_reducible rfl
        try simp only [Act.put, List.setIfInBounds_toArray, List.set_cons_zero, List.set_cons_succ]
        refine wpAnyUN_take (i := 1) (oi := _) (some 113) (v := ?v88) rfl rfl (by kernel_rfl) (by kernel_rfl) (by kernel_rfl) (Or.inl ⟨by rfl, ?hy88⟩) ?rest88
        case hy88 =>
          intro w' hSw
          go_simp
          refine lands_value ?_ hSw
          with_reducible rfl
        try simp only [Act.put, List.setIfInBounds_toArray, List.set_cons_zero, List.set_cons_succ]
        refine wpAnyUN_take (i := 2) (oi := _) (some 114) (v := ?v89) rfl rfl (by kernel_rfl) (by kernel_rfl) (by kernel_rfl) (Or.inl ⟨by rfl, ?hy89⟩) ?rest89
        case hy89 =>
          intro w' hSw
          go_simp
          refine lands_value ?_ hSw
          with_reducible rfl
        try simp only [Act.put, List.setIfInBounds_toArray, List.set_cons_zero, List.set_cons_succ]
        refine wpAnyUN_take (i := 3) (oi := _) (some 115) (v := ?v90) rfl rfl (by kernel_rfl) (by kernel_rfl) (by kernel_rfl) (Or.inl ⟨by rfl, ?hy90⟩) ?rest90
        case hy90 =>
          intro w' hSw
          obtain ⟨b0, b1, -, -⟩ := id hSw
          go_simp
          refine lands_value ?_ hSw
          with_reducible rfl
        try simp only [Act.put, List.setIfInBounds_toArray, List.set_cons_zero, List.set_cons_succ]
        refine wpAnyUN_take (i := 4) (oi := _) (some 116) (v := ?v91) rfl rfl (by kernel_rfl) (by kernel_rfl) (by kernel_rfl) (Or.inl ⟨by rfl, ?hy91⟩) ?rest91
        case hy91 =>
          intro w' hSw
          go_simp
          refine lands_enter ?_
          refine (waits_any A m d lost _ hml).mono ?_
          rintro e wx ⟨rfl, hb⟩
          refine ⟨?_, hSw.keep hb⟩
          with_reducible rfl
        try simp only [Act.put, List.setIfInBounds_toArray, List.set_cons_zero, List.set_cons_succ]
        refine wpAnyUN_take (i := 5) (oi := _) (some 117) (v := ?v92) rfl rfl (by kernel_rfl) (by kernel_rfl) (by kernel_rfl) (Or.inl ⟨by rfl, ?hy92⟩) ?rest92
        case hy92 =>
          intro w' hSw
          go_simp
          refine lands_value ?_ hSw
          with_reducible rfl
        try simp only [Act.put, List.setIfInBounds_toArray, List.set_cons_zero, List.set_cons_succ]
        refine wpAnyUN_take (i := 6) (oi := _) (some 118) (v := ?v93) rfl rfl (by kernel_rfl) (by kernel_rfl) (by kernel_rfl) (Or.inl ⟨by rfl, ?hy93⟩) ?rest93
        case hy93 =>
          intro w' hSw
          go_simp
          refine lands_value ?_ hSw
          with_reducible rfl
        try simp only [Act.put, List.setIfInBounds_toArray, List.set_cons_zero, List.set_cons_succ]
        refine wpAnyUN_take (i := 7) (oi := _) (some 119) (v := ?v94) rfl rfl (by kernel_rfl) (by kernel_rfl) (by kernel_rfl) (Or.inl ⟨by rfl, ?hy94⟩) ?rest94
        case hy94 =>
          intro w' hSw
          obtain ⟨b0, b1, -, -⟩ := id hSw
          go_simp
          refine lands_value ?_ hSw
          with_reducible rfl
        try simp only [Act.put, List.setIfInBounds_toArray, List.set_cons_zero, List.set_cons_succ]
        refine wpAnyUN_take (i := 8) (oi := _) (some 120) (v := ?v95) rfl rfl (by kernel_rfl) (by kernel_rfl) (by kernel_rfl) (Or.inl ⟨by rfl, ?hy95⟩) ?rest95
        case hy95 =>
          intro w' hSw
          go_simp
          refine lands_value ?_ hSw
          with_reducible rfl
        try simp only [Act.put, List.setIfInBounds_toArray, List.set_cons_zero, List.set_cons_succ]
        refine wpAnyUN_take (i := 9) (oi := _) (some 121) (v := ?v96) rfl rfl (by kernel_rfl) (by kernel_rfl) (by kernel_rfl) (Or.inl ⟨by rfl, ?hy96⟩) ?rest96
        case hy96 =>
          intro w' hSw
          go_simp
          refine lands_value ?_ hSw
          with_reducible rfl
        try simp only [Act.put, List.setIfInBounds_toArray, List.set_cons_zero, List.set_cons_succ]
        refine wpAnyUN_take (i := 10) (oi := _) (some 122) (v := ?v97) rfl rfl (by kernel_rfl) (by kernel_rfl) (by kernel_rfl) (Or.inl ⟨by rfl, ?hy97⟩) ?rest97
        case hy97 =>
          intro w' hSw
          go_simp
          refine lands_value ?_ hSw
          with_reducible rfl
        try simp only [Act.put, List.setIfInBounds_toArray, List.set_cons_zero, List.set_cons_succ]
        refine wpAnyUN_take (i := 11) (oi := _) (some 123) (v := ?v98) rfl rfl (by kernel_rfl) (by kernel_rfl) (by kernel_rfl) (Or.inl ⟨by rfl, ?hy98⟩) ?rest98
        case hy98 =>
          intro w' hSw
          go_simp
          refine lands_value ?_ hSw
          with_reducible rfl
        try simp only [Act.put, List.setIfInBounds_toArray, List.set_cons_zero, List.set_cons_succ]
        refine wpAnyUN_take (i := 12) (oi := _) (some 124) (v := ?v99) rfl rfl (by kernel_rfl) (by kernel_rfl) (by kernel_rfl) (Or.inl ⟨by rfl, ?hy99⟩) ?rest99
        case hy99 =>
          intro w' hSw
          go_simp
          refine lands_value ?_ hSw
          with_reducible rfl
        try simp only [Act.put, List.setIfInBounds_toArray, List.set_cons_zero, List.set_cons_succ]
        refine wpAnyUN_take (i := 13) (oi := _) (some 125) (v := ?v100) rfl rfl (by kernel_rfl) (by kernel_rfl) (by kernel_rfl) (Or.inl ⟨by rfl, ?hy100⟩) ?rest100
        case hy100 =>
          intro w' hSw
          obtain ⟨b0, b1, -, -⟩ := id hSw
          go_simp
          refine lands_value ?_ hSw
          with_reducible rfl
        try simp only [Act.put, List.setIfInBounds_toArray, List.set_cons_zero, List.set_cons_succ]
        refine wpAnyUN_take (i := 14) (oi := _) (some 126) (v := ?v101) rfl rfl (by kernel_rfl) (by kernel_rfl) (by kernel_rfl) (Or.inl ⟨by rfl, ?hy101⟩) ?rest101
        case hy101 =>
          intro w' hSw
          go_simp
          refine lands_enter ?_
          refine (waits_any A m d lost _ hml).mono ?_
          rintro e wx ⟨rfl, hb⟩
          refine ⟨?_, hSw.keep hb⟩
          with_reducible rfl
        try simp only [Act.put, List.setIfInBounds_toArray, List.set_cons_zero, List.set_cons_succ]
        refine wpAnyUN_take (i := 15) (oi := _) (some 127) (v := ?v102) rfl rfl (by kernel_rfl) (by kernel_rfl) (by kernel_rfl) (Or.inl ⟨by rfl, ?hy102⟩) ?rest102
        case hy102 =>
          intro w' hSw
          go_simp
          refine lands_value ?_ hSw
          with_reducible rfl
        try simp only [Act.put, List.setIfInBounds_toArray, List.set_cons_zero, List.set_cons_succ]
        refine wpAnyUN_take (i := 16) (oi := _) (some 128) (v := ?v103) rfl rfl (by kernel_rfl) (by kernel_rfl) (by kernel_rfl) (Or.inl ⟨by rfl, ?hy103⟩) ?rest103
        case hy103 =>
          intro w' hSw
          go_simp
          refine lands_value ?_ hSw
          with_reducible rfl
        try simp only [Act.put, List.setIfInBounds_toArray, List.set_cons_zero, List.set_cons_succ]
        refine wpAnyUN_take (i := 17) (oi := _) (some 129) (v := ?v104) rfl rfl (by kernel_rfl) (by kernel_rfl) (by kernel_rfl) (Or.inl ⟨by rfl, ?hy104⟩) ?rest104
        case hy104 =>
          intro w' hSw
          go_simp
          refine lands_value ?_ hSw
          with_reducible rfl
        try simp only [Act.put, List.setIfInBounds_toArray, List.set_cons_zero, List.set_cons_succ]
        refine wpAnyUN_take (i := 18) (oi := _) (some 130) (v := ?v105) rfl rfl (by kernel_rfl) (by kernel_rfl) (by kernel_rfl) (Or.inl ⟨by rfl, ?hy105⟩) ?rest105
        case hy105 =>
          intro w' hSw
          go_simp
          refine lands_value ?_ hSw
          with_reducible rfl
        try simp only [Act.put, List.setIfInBounds_toArray, List.set_cons_zero, List.set_cons_succ]
        refine wpAnyUN_take (i := 19) (oi := _) (some 131) (v := ?v106) rfl rfl (by kernel_rfl) (by kernel_rfl) (by kernel_rfl) (Or.inl ⟨by rfl, ?hy106⟩) ?rest106
        case hy106 =>
          intro w' hSw
          go_simp
          refine lands_value ?_ hSw
          with_reducible rfl
        try simp only [Act.put, List.setIfInBounds_toArray, List.set_cons_zero, List.set_cons_succ]
        refine wpAnyUN_take (i := 20) (oi := _) (some 132) (v := ?v107) rfl rfl (by kernel_rfl) (by kernel_rfl) (by kernel_rfl) (Or.inl ⟨by rfl, ?hy107⟩) ?rest107
        case hy107 =>
          intro w' hSw
          obtain ⟨b0, b1, -, -⟩ := id hSw
          go_simp
          refine lands_value ?_ hSw
          with_reducible rfl
        try simp only [Act.put, List.setIfInBounds_toArray, List.set_cons_zero, List.set_cons_succ]
        refine wpAnyUN_take (i := 21) (oi := _) (some 133) (v := ?v108) rfl rfl (by kernel_rfl) (by kernel_rfl) (by kernel_rfl) (Or.inl ⟨by rfl, ?hy108⟩) ?rest108
        case hy108 =>
          intro w' hSw
          go_simp
          refine lands_enter ?_
          refine (waits_any A m d lost _ hml).mono ?_
          rintro e wx ⟨rfl, hb⟩
          refine ⟨?_, hSw.keep hb⟩
          with_reducible rfl
        try simp only [Act.put, List.setIfInBounds_toArray, List.set_cons_zero, List.set_cons_succ]
        refine wpAnyUN_take (i := 22) (oi := _) (some 134) (v := ?v109) rfl rfl (by kernel_rfl) (by kernel_rfl) (by kernel_rfl) (Or.inl ⟨by rfl, ?hy109⟩) ?rest109
        case hy109 =>
          intro w' hSw
          go_simp
          refine lands_value ?_ hSw
          with_reducible rfl
        try simp only [Act.put, List.setIfInBounds_toArray, List.set_cons_zero, List.set_cons_succ]
        refine wpAnyUN_take (i := 23) (oi := _) (some 135) (v := ?v110) rfl rfl (by kernel_rfl) (by kernel_rfl) (by kernel_rfl) (Or.inl ⟨by rfl, ?hy110⟩) ?rest110
        case hy110 =>
          intro w' hSw
          go_simp
          refine lands_value ?_ hSw
          with_reducible rfl
        try simp only [Act.put, List.setIfInBounds_toArray, List.set_cons_zero, List.set_cons_succ]
        refine wpAnyUN_take (i := 24) (oi := _) (some 136) (v := ?v111) rfl rfl (by kernel_rfl) (by kernel_rfl) (by kernel_rfl) (Or.inl ⟨by rfl, ?hy111⟩) ?rest111
        case hy111 =>
          intro w' hSw
          go_simp
          refine lands_value ?_ hSw
          with_reducible rfl
        try simp only [Act.put, List.setIfInBounds_toArray, List.set_cons_zero, List.set_cons_succ]
        refine wpAnyUN_take (i := 25) (oi := _) (some 137) (v := ?v112) rfl rfl (by kernel_rfl) (by kernel_rfl) (by kernel_rfl) (Or.inl ⟨by rfl, ?hy112⟩) ?rest112
        case hy112 =>
          intro w' hSw
          go_simp
          refine lands_value ?_ hSw
          with_reducible rfl
        try simp only [Act.put, List.setIfInBounds_toArray, List.set_cons_zero, List.set_cons_succ]
        refine wpAnyUN_take (i := 26) (oi := _) (some 138) (v := ?v113) rfl rfl (by kernel_rfl) (by kernel_rfl) (by kernel_rfl) (Or.inl ⟨by rfl, ?hy113⟩) ?rest113
        case hy113 =>
          intro w' hSw
          go_simp
          refine lands_value ?_ hSw
          with_reducible rfl
        try simp only [Act.put, List.setIfInBounds_toArray, List.set_cons_zero, List.set_cons_succ]
        refine wpAnyUN_take (i := 27) (oi := _) (some 6) (v := ?v114) rfl rfl (by kernel_rfl) (by kernel_rfl) (by kernel_rfl) (Or.inl ⟨by rfl, ?hy114⟩) ?rest114
        case hy114 =>
          intro w' hSw
          go_simp
          refine lands_value ?_ hSw
          with_reducible rfl
        try simp only [Act.put, List.setIfInBounds_toArray, List.set_cons_zero, List.set_cons_succ]
        refine wpAnyU_done (by kernel_rfl) (fun w' hSw => ?_) _
        refine NoPanic.normal ?_
        go_wp2
        go_ret
        exact ⟨rfl, hEnd.out _ hSw⟩
    · have hx1 : ¬ (k : Int) < (n : Int) := by omega
      obtain ⟨c0, c1, c2, c3, c4, b0, b1, f0, f1⟩ := hS'.out
      obtain ⟨y1, y2, y3, y4, y5⟩ := hK.out
      have y6 : got + m = ins.length := by
        have := hR.out.1
        rw [y2] at this
        simp at this
        omega
      have y7 : (m : Int) ≤ depth := by rw [← hR.out.1]; exact y4
      have e1 : IntKind.i64.wrap ((got : Int) + (m : Int)) = (ins.length : Int) := by rw [IntWalk.i64_in _ (by omega)]; omega
      have e2 : IntKind.i64.wrap ((ins.length : Int) + (lost : Int)) = (sent : Int) := by rw [IntWalk.i64_in _ (by omega)]; omega
      have hml : m ≤ maxLen := by unfold maxLen; omega
      obtain ⟨Ai, ci, rfl, -⟩ := own_slice hO.out
      have hKE : KE w w1.heap.size A m d lost wr.drew := ⟨b0, b1, hB.out.drew, hB.out.size⟩
      clear hB hO hR hF hK hS' y2 y4 c0 c1 c2 c3 c4 f0 f1
      have hEnd := hide (fun (w' : World) (h : KE w w1.heap.size A m d lost w') => h.2.2.1.out)
      go_wp2_with fail
      refine wp_region_noPanic ?_
      refine wp_region_U (S := KE w w1.heap.size A m d lost) (by kernel_rfl) (hKE) ?_
      refine wpAnyUN_take (i := 0) (oi := _) (some 112) (v := ?v115) rfl rfl (by kernel_rfl) (by kernel_rfl) (by kernel_rfl) (Or.inl ⟨by rfl, ?hy115⟩) ?rest115
      case hy115 =>
        intro w' hSw
        go_simp
        refine lands_value ?_ hSw
        with_reducible rfl
      try simp only [Act.put, List.setIfInBounds_toArray, List.set_cons_zero, List.set_cons_succ]
      refine wpAnyUN_take (i := 1) (oi := _) (some 113) (v := ?v116) rfl rfl (by kernel_rfl) (by kernel_rfl) (by kernel_rfl) (Or.inl ⟨by rfl, ?hy116⟩) ?rest116
      case hy116 =>
        intro w' hSw
        go_simp
        refine lands_value ?_ hSw
        with_reducible rfl
      try simp only [Act.put, List.setIfInBounds_toArray, List.set_cons_zero, List.set_cons_succ]
      refine wpAnyUN_take (i := 2) (oi := _) (some 114) (v := ?v117) rfl rfl (by kernel_rfl) (by kernel_rfl) (by kernel_rfl) (Or.inl ⟨by rfl, ?hy117⟩) ?rest117
      case hy117 =>
        intro w' hSw
        go_simp
        refine lands_value ?_ hSw
        with_reducible rfl
      try simp only [Act.put, List.setIfInBounds_toArray, List.set_cons_zero, List.set_cons_succ]
      refine wpAnyUN_take (i := 3) (oi := _) (some 115) (v := ?v118) rfl rfl (by kernel_rfl) (by kernel_rfl) (by kernel_rfl) (Or.inl ⟨by rfl, ?hy118⟩) ?rest118
      case hy118 =>
        intro w' hSw
        obtain ⟨b0, b1, -, -⟩ := id hSw
        go_simp
        refine lands_value ?_ hSw
        with_reducible rfl
      try simp only [Act.put, List.setIfInBounds_toArray, List.set_cons_zero, List.set_cons_succ]
      refine wpAnyUN_take (i := 4) (oi := _) (some 116) (v := ?v119) rfl rfl (by kernel_rfl) (by kernel_rfl) (by kernel_rfl) (Or.inl ⟨by rfl, ?hy119⟩) ?rest119
      case hy119 =>
        intro w' hSw
        go_simp
        refine lands_enter ?_
        refine (waits_any A m d lost _ hml).mono ?_
        rintro e wx ⟨rfl, hb⟩
        refine ⟨?_, hSw.keep hb⟩
        with_reducible rfl
      try simp only [Act.put, List.setIfInBounds_toArray, List.set_cons_zero, List.set_cons_succ]
      refine wpAnyUN_take (i := 5) (oi := _) (some 117) (v := ?v120) rfl rfl (by kernel_rfl) (by kernel_rfl) (by kernel_rfl) (Or.inl ⟨by rfl, ?hy120⟩) ?rest120
      case hy120 =>
        intro w' hSw
        go_simp
        refine lands_value ?_ hSw
        with_reducible rfl
      try simp only [Act.put, List.setIfInBounds_toArray, List.set_cons_zero, List.set_cons_succ]
      refine wpAnyUN_take (i := 6) (oi := _) (some 118) (v := ?v121) rfl rfl (by kernel_rfl) (by kernel_rfl) (by kernel_rfl) (Or.inl ⟨by rfl, ?hy121⟩) ?rest121
      case hy121 =>
        intro w' hSw
        go_simp
        refine lands_value ?_ hSw
        with_reducible rfl
      try simp only [Act.put, List.setIfInBounds_toArray, List.set_cons_zero, List.set_cons_succ]
      refine wpAnyUN_take (i := 7) (oi := _) (some 119) (v := ?v122) rfl rfl (by kernel_rfl) (by kernel_rfl) (by kernel_rfl) (Or.inl ⟨by rfl, ?hy122⟩) ?rest122
      case hy122 =>
        intro w' hSw
        obtain ⟨b0, b1, -, -⟩ := id hSw
        go_simp
        refine lands_value ?_ hSw
        with_reducible rfl
      try simp only [Act.put, List.setIfInBounds_toArray, List.set_cons_zero, List.set_cons_succ]
      refine wpAnyUN_take (i := 8) (oi := _) (some 120) (v := ?v123) rfl rfl (by kernel_rfl) (by kernel_rfl) (by kernel_rfl) (Or.inl ⟨by rfl, ?hy123⟩) ?rest123
      case hy123 =>
        intro w' hSw
        go_simp
        refine lands_value ?_ hSw
        with_reducible rfl
      try simp only [Act.put, List.setIfInBounds_toArray, List.set_cons_zero, List.set_cons_succ]
      refine wpAnyUN_take (i := 9) (oi := _) (some 121) (v := ?v124) rfl rfl (by kernel_rfl) (by kernel_rfl) (by kernel_rfl) (Or.inl ⟨by rfl, ?hy124⟩) ?rest124
      case hy124 =>
        intro w' hSw
        go_simp
        refine lands_value ?_ hSw
        with_reducible rfl
      try simp only [Act.put, List.setIfInBounds_toArray, List.set_cons_zero, List.set_cons_succ]
      refine wpAnyUN_take (i := 10) (oi := _) (some 122) (v := ?v125) rfl rfl (by kernel_rfl) (by kernel_rfl) (by kernel_rfl) (Or.inl ⟨by rfl, ?hy125⟩) ?rest125
      case hy125 =>
        intro w' hSw
        go_simp
        refine lands_value ?_ hSw
        with_reducible rfl
      try simp only [Act.put, List.setIfInBounds_toArray, List.set_cons_zero, List.set_cons_succ]
      refine wpAnyUN_take (i := 11) (oi := _) (some 123) (v := ?v126) rfl rfl (by kernel_rfl) (by kernel_rfl) (by kernel_rfl) (Or.inl ⟨by rfl, ?hy126⟩) ?rest126
      case hy126 =>
        intro w' hSw
        go_simp
        refine lands_value ?_ hSw
        with_reducible rfl
      try simp only [Act.put, List.setIfInBounds_toArray, List.set_cons_zero, List.set_cons_succ]
      refine wpAnyUN_take (i := 12) (oi := _) (some 124) (v := ?v127) rfl rfl (by kernel_rfl) (by kernel_rfl) (by kernel_rfl) (Or.inl ⟨by rfl, ?hy127⟩) ?rest127
      case hy127 =>
        intro w' hSw
        go_simp
        refine lands_value ?_ hSw
        with_reducible rfl
      try simp only [Act.put, List.setIfInBounds_toArray, List.set_cons_zero, List.set_cons_succ]
      refine wpAnyUN_take (i := 13) (oi := _) (some 125) (v := ?v128) rfl rfl (by kernel_rfl) (by kernel_rfl) (by kernel_rfl) (Or.inl ⟨by rfl, ?hy128⟩) ?rest128
      case hy128 =>
        intro w' hSw
        obtain ⟨b0, b1, -, -⟩ := id hSw
        go_simp
        refine lands_value ?_ hSw
        with_reducible rfl
      try simp only [Act.put, List.setIfInBounds_toArray, List.set_cons_zero, List.set_cons_succ]
      refine wpAnyUN_take (i := 14) (oi := _) (some 126) (v := ?v129) rfl rfl (by kernel_rfl) (by kernel_rfl) (by kernel_rfl) (Or.inl ⟨by rfl, ?hy129⟩) ?rest129
      case hy129 =>
        intro w' hSw
        go_simp
        refine lands_enter ?_
        refine (waits_any A m d lost _ hml).mono ?_
        rintro e wx ⟨rfl, hb⟩
        refine ⟨?_, hSw.keep hb⟩
        with_reducible rfl
      try simp only [Act.put, List.setIfInBounds_toArray, List.set_cons_zero, List.set_cons_succ]
      refine wpAnyUN_take (i := 15) (oi := _) (some 127) (v := ?v130) rfl rfl (by kernel_rfl) (by kernel_rfl) (by kernel_rfl) (Or.inl ⟨by rfl, ?hy130⟩) ?rest130
      case hy130 =>
        intro w' hSw
        go_simp
        refine lands_value ?_ hSw
        with_reducible rfl
      try simp only [Act.put, List.setIfInBounds_toArray, List.set_cons_zero, List.set_cons_succ]
      refine wpAnyUN_take (i := 16) (oi := _) (some 128) (v := ?v131) rfl rfl (by kernel_rfl) (by kernel_rfl) (by kernel_rfl) (Or.inl ⟨by rfl, ?hy131⟩) ?rest131
      case hy131 =>
        intro w' hSw
        go_simp
        refine lands_value ?_ hSw
        with_reducible rfl
      try simp only [Act.put, List.setIfInBounds_toArray, List.set_cons_zero, List.set_cons_succ]
      refine wpAnyUN_take (i := 17) (oi := _) (some 129) (v := ?v132) rfl rfl (by kernel_rfl) (by kernel_rfl) (by kernel_rfl) (Or.inl ⟨by rfl, ?hy132⟩) ?rest132
      case hy132 =>
        intro w' hSw
        go_simp
        refine lands_value ?_ hSw
        with_reducible rfl
      try simp only [Act.put, List.setIfInBounds_toArray, List.set_cons_zero, List.set_cons_succ]
      refine wpAnyUN_take (i := 18) (oi := _) (some 130) (v := ?v133) rfl rfl (by kernel_rfl) (by kernel_rfl) (by kernel_rfl) (Or.inl ⟨by rfl, ?hy133⟩) ?rest133
      case hy133 =>
        intro w' hSw
        go_simp
        refine lands_value ?_ hSw
        with_reducible rfl
      try simp only [Act.put, List.setIfInBounds_toArray, List.set_cons_zero, List.set_cons_succ]
      refine wpAnyUN_take (i := 19) (oi := _) (some 131) (v := ?v134) rfl rfl (by kernel_rfl) (by kernel_rfl) (by kernel_rfl) (Or.inl ⟨by rfl, ?hy134⟩) ?rest134
      case hy134 =>
        intro w' hSw
        go_simp
        refine lands_value ?_ hSw
        with_reducible rfl
      try simp only [Act.put, List.setIfInBounds_toArray, List.set_cons_zero, List.set_cons_succ]
      refine wpAnyUN_take (i := 20) (oi := _) (some 132) (v := ?v135) rfl rfl (by kernel_rfl) (by kernel_rfl) (by kernel_rfl) (Or.inl ⟨by rfl, ?hy135⟩) ?rest135
      case hy135 =>
        intro w' hSw
        obtain ⟨b0, b1, -, -⟩ := id hSw
        go_simp
        refine lands_value ?_ hSw
        with_reducible rfl
      try simp only [Act.put, List.setIfInBounds_toArray, List.set_cons_zero, List.set_cons_succ]
      refine wpAnyUN_take (i := 21) (oi := _) (some 133) (v := ?v136) rfl rfl (by kernel_rfl) (by kernel_rfl) (by kernel_rfl) (Or.inl ⟨by rfl, ?hy136⟩) ?rest136
      case hy136 =>
        intro w' hSw
        go_simp
        refine lands_enter ?_
        refine (waits_any A m d lost _ hml).mono ?_
        rintro e wx ⟨rfl, hb⟩
        refine ⟨?_, hSw.keep hb⟩
        with_reducible rfl
      try simp only [Act.put, List.setIfInBounds_toArray, List.set_cons_zero, List.set_cons_succ]
      refine wpAnyUN_take (i := 22) (oi := _) (some 134) (v := ?v137) rfl rfl (by kernel_rfl) (by kernel_rfl) (by kernel_rfl) (Or.inl ⟨by rfl, ?hy137⟩) ?rest137
      case hy137 =>
        intro w' hSw
        go_simp
        refine lands_value ?_ hSw
        with_reducible rfl
      try simp only [Act.put, List.setIfInBounds_toArray, List.set_cons_zero, List.set_cons_succ]
      refine wpAnyUN_take (i := 23) (oi := _) (some 135) (v := ?v138) rfl rfl (by kernel_rfl) (by kernel_rfl) (by kernel_rfl) (Or.inl ⟨by rfl, ?hy138⟩) ?rest138
      case hy138 =>
        intro w' hSw
        go_simp
        refine lands_value ?_ hSw
        with_reducible rfl
      try simp only [Act.put, List.setIfInBounds_toArray, List.set_cons_zero, List.set_cons_succ]
      refine wpAnyUN_take (i := 24) (oi := _) (some 136) (v := ?v139) rfl rfl (by kernel_rfl) (by kernel_rfl) (by kernel_rfl) (Or.inl ⟨by rfl, ?hy139⟩) ?rest139
      case hy139 =>
        intro w' hSw
        go_simp
        refine lands_value ?_ hSw
        with_reducible rfl
      try simp only [Act.put, List.setIfInBounds_toArray, List.set_cons_zero, List.set_cons_succ]
      refine wpAnyUN_take (i := 25) (oi := _) (some 137) (v := ?v140) rfl rfl (by kernel_rfl) (by kernel_rfl) (by kernel_rfl) (Or.inl ⟨by rfl, ?hy140⟩) ?rest140
      case hy140 =>
        intro w' hSw
        go_simp
        refine lands_value ?_ hSw
        with_reducible rfl
      try simp only [Act.put, List.setIfInBounds_toArray, List.set_cons_zero, List.set_cons_succ]
      refine wpAnyUN_take (i := 26) (oi := _) (some 138) (v := ?v141) rfl rfl (by kernel_rfl) (by kernel_rfl) (by kernel_rfl) (Or.inl ⟨by rfl, ?hy141⟩) ?rest141
      case hy141 =>
        intro w' hSw
        go_simp
        refine lands_value ?_ hSw
        with_reducible rfl
      try simp only [Act.put, List.setIfInBounds_toArray, List.set_cons_zero, List.set_cons_succ]
      refine wpAnyUN_take (i := 27) (oi := _) (some 6) (v := ?v142) rfl rfl (by kernel_rfl) (by kernel_rfl) (by kernel_rfl) (Or.inl ⟨by rfl, ?hy142⟩) ?rest142
      case hy142 =>
        intro w' hSw
        go_simp
        refine lands_value ?_ hSw
        with_reducible rfl
      try simp only [Act.put, List.setIfInBounds_toArray, List.set_cons_zero, List.set_cons_succ]
      refine wpAnyU_done (by kernel_rfl) (fun w' hSw => ?_) _
      refine NoPanic.normal ?_
      go_wp2
      go_ret
      exact ⟨rfl, hEnd.out _ hSw⟩

end Go.Proofs.Ytepnfhjfjjdpkaa.Port
